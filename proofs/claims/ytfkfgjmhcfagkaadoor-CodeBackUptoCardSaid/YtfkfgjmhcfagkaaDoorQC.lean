/- Lemmas for the claim (what no proof of it names is left out). -/
import Derived.Test.YtfkfgjmhcfagkaaDoorQB
import Derived.Lib.Strings
import Derived.Test.YtfkfgjmhcfagkaaDoorQA
section
namespace Go.Proofs.YtfkfgjmhcfagkaaDoor.Given
open Go.RowKit Go.Proofs.YtfkfgjmhcfagkaaDoorW.PrintWords Go.Proofs.YtfkfgjmhcfagkaaDoorW.PrintLast Go.Proofs.YtfkfgjmhcfagkaaDoorW.PrintMore Go.Proofs.YtfkfgjmhcfagkaaDoor.Print
set_option linter.unusedVariables false
set_option linter.unusedSimpArgs false
section
variable {P : Program} {ops : Array Oper} {o : Oper} {a : Act} {Q : Exit → Act → World → Prop} {Kc : Act → World → Prop}
theorem store_step {W w1 : World} (hw : Region.wanted o (yielded ops a.tmps) = true) (hN : o.dst = none) (hrun : (execOp a.eval o).run P W = .ok .skip w1) (h : Kc a w1) : if Region.wanted o (yielded ops a.tmps) = true then Oper.wp P o a W Kc Q else Kc (a.put none undef) W := by
  rw [if_pos hw]
  unfold Oper.wp
  rw [hrun]
  show Kc (a.put o.dst undef) w1
  rw [hN]
  exact h
end
theorem num_cell {w : World} {base gn n c : Nat} {ok : Nat → Prop} {ns : List Int} (h : (Kd.int .i64).R 3 w base ok (.slice (some ⟨gn, 0, none⟩) n c) ns) (j : Nat) (x : Int) (hx : ns[j]? = some x) : w.cell? ⟨gn, j, none⟩ = some (.int .i64 x) := by
  obtain ⟨A, c', e, hl, hr⟩ := Kd.R_reads h
  injection e with e1 e2 e3
  subst e1
  obtain ⟨ad, e, hc⟩ := num_at hr j x hx
  injection e with e
  subst e
  rw [← hc, Addr.add]
  by_cases hj : j = 0
  · rw [if_pos hj, hj]
  · rw [if_neg hj, Nat.zero_add]
theorem info57 : (Tryd.prog.info? 57).map (fun i => (i.zero, i.size, i.bytes)) = some (some (.agg #[(.int .i64 0), (.int .i64 0), (.int .i64 0), (.bool false), (.slice none 0 0)]), 5, 56) := by kernel_rfl
theorem fr_set {base g : Nat} {w w1 : World} (h : Below base w w1) (j : Nat) (v : Value) : Fr base g w (w1.setCell ⟨g, j, none⟩ v) :=
  ⟨h.os, h.tape, h.output, by simpa [World.setCell] using h.size, fun k hk hkg => (Below.heap_setCell w1 ⟨g, j, none⟩ v k hkg).trans (h.block k hk)⟩
theorem ne57 : ∀ q, q ∈ 3 :: (Kd.int .i64).E → q ≠ 57 := by decide
theorem ne54 : ∀ q, q ∈ 54 :: k54q.E → q ≠ 57 := by decide
theorem ne54u : ∀ q, q ∈ 54 :: k54q.E → q ≠ 36 := by decide
theorem ne57u : ∀ q, q ∈ 57 :: k57q.E → q ≠ 36 := by decide
def a12T : Bool × List (List Nat × List Nat) := (true, [([], []), ([], []), ([1], [1]), ([2], [2]), ([3], [3]), ([], []), ([5], [5]), ([6], [6]), ([], []), ([8], [8]), ([9], [9]), ([], []), ([11], [11]), ([12], [12]), ([], []), ([14], [14]), ([15], [15]), ([16], [16]), ([7, 10, 13, 17], [7, 10, 13, 17]), ([18], [18]), ([4, 19], [4, 19]), ([0, 0, 1, 2, 3, 4, 5, 6, 7, 8, 9, 10, 11, 12, 13, 14, 15, 16, 17, 18, 19, 20], [0]), ([21, 0, 1, 2, 3, 4, 5, 6, 7, 8, 9, 10, 11, 12, 13, 14, 15, 16, 17, 18, 19, 20], [21]), ([22, 20, 20, 0, 1, 2, 3, 4, 5, 6, 7, 8, 9, 10, 11, 12, 13, 14, 15, 16, 17, 18, 19, 20], [20, 22])])
def a12B : List Nat := [0, 0, 2, 6, 14, 0, 32, 96, 0, 256, 768, 0, 2048, 6144, 0, 16384, 49152, 114688, 262112, 524256, 1048574, 2097151, 4194303, 8388607]
theorem a12tab : rtab .any (opsOf Tryd.f49 12) = a12T := by kernel_rfl
theorem a12bits : waitsOk a12T.2 a12B = true := by kernel_rfl
set_option maxRecDepth 100000 in
set_option maxHeartbeats 4000000 in
theorem add_prog0 (base g : Nat) (ps : List S57) (ts : List S54) (s : ByteArray) (a b c : Int) (w : World) (hL : LW w) (hs : s.size < 4294967281) (h : readOf s = some (progWord, [a, b, c, 0])) (hU : UnitAt w base g ps ts) (hgb : g < base) (hbw : base ≤ w.heap.size) (hps : ps.length + 1 ≤ 4294967296) :
    Calls Tryd.prog 49 #[.pointer (some ⟨g, 0, none⟩), .string s] w fun e w' => e = .returned (.bool true) ∧ UnitAt w' base g (ps ++ [⟨a, b, c, false, []⟩]) ts ∧ Fr base g w w' := by
  have hu57 := Tryd.underlying57
  rw [show progWord = ⟨#[112, 114, 111, 103]⟩ from rfl] at h
  obtain ⟨P, T, okP, okT, hbk, hP, hT, hap⟩ := hU
  have BK := Aside0.mk hbk
  have HP := Aside0.mk hP
  have HT := Aside0.mk hT
  have HAP := Aside0.mk hap
  have HL := Aside0.mk hL
  have HH := Aside0.mk h
  have HBW := Aside0.mk hbw
  have HGB := Aside0.mk hgb
  have HPS := Aside0.mk hps
  clear hbk hP hT hap hL h hbw hgb hps
  go_enter Tryd.func49, Tryd.ntmps49
  go_wp2_with (go_at_call 61; refine (read_yes s _ _ _ hs HL.out HH.out).mono ?_; rintro e w1 ⟨v, rfl, hr, hb⟩; obtain ⟨gn, cn, rfl, hgn, hgn2, hty⟩ := Kd.R_form hr (by simp); have HR := Aside0.mk hr; have HB := Aside0.mk hb; have m3 := Aside0.mk hgn; clear hr hb hgn hgn2 hty; have x3 : w1.cell? ⟨gn, 3, none⟩ = some (.int .i64 0) := num_cell HR.out 3 0 rfl)
  have n0_ := Aside0.mk (blk_drew (blk_below BK.out HB.out))
  have n1_ := Aside0.mk (Kd.R_drew HR.out)
  have n2_ := Aside0.mk (Kd.S_drew (Kd.S_below HP.out HB.out))
  have n3_ := Aside0.mk (Kd.S_drew (Kd.S_below HT.out HB.out))
  have n4_ := Aside0.mk (below_drew1 HB.out)
  refine start_ (n := 24) (S := fun w' => w'.cell? ⟨g, 0, none⟩ = some (P) ∧ w'.cell? ⟨gn, 0, none⟩ = some (.int .i64 a) ∧ w'.cell? ⟨gn, 1, none⟩ = some (.int .i64 b) ∧ w'.cell? ⟨gn, 2, none⟩ = some (.int .i64 c) ∧ w'.cell? ⟨gn, 3, none⟩ = some (.int .i64 0)) (ds := [23]) #[false, false, false, false, false, false, false, false, false, false, false, false, false, false, false, false, false, false, false, false, false, false, false, false] (by kernel_rfl) rfl rfl ⟨(blk_cell n0_.out 0).trans rfl, num_cell n1_.out 0 a rfl, num_cell n1_.out 1 b rfl, num_cell n1_.out 2 c rfl, num_cell n1_.out 3 0 rfl⟩ (fun hHeld => ?_)
  refine with_tabW a12tab a12bits (fun HT_ HW_ => ?_)
  generalize w1.drew = w2 at n0_ n1_ n2_ n3_ n4_ hHeld ⊢
  clear BK HR HP HT HB x3
  have BK := n0_
  have HR := n1_
  have HP := n2_
  have HT := n3_
  have HB := n4_
  clear n0_ n1_ n2_ n3_ n4_
  refine pure_ (i := 0) (N := some 81) (v := ?_) (a' := ?_) #[true, false, false, false, false, false, false, false, false, false, false, false, false, false, false, false, false, false, false, false, false, false, false, false] rfl rfl (any_of HT_.out (by kernel_rfl)) (fun _ _ _ h => h) (Or.inl ⟨by rfl, ?_⟩) ?_ ?_
  rotate_left
  · intro w'
    go_simp
    with_reducible rfl
  rotate_left
  · simp only [Act.put, List.setIfInBounds_toArray, List.set_cons_zero, List.set_cons_succ, i64_w, i32_w]
    rfl
  refine pure_ (i := 1) (N := some 82) (v := ?_) (a' := ?_) #[true, true, false, false, false, false, false, false, false, false, false, false, false, false, false, false, false, false, false, false, false, false, false, false] rfl rfl (any_of HT_.out (by kernel_rfl)) (fun _ _ _ h => h) (Or.inl ⟨by rfl, ?_⟩) ?_ ?_
  rotate_left
  · intro w'
    go_simp
    with_reducible rfl
  rotate_left
  · simp only [Act.put, List.setIfInBounds_toArray, List.set_cons_zero, List.set_cons_succ, i64_w, i32_w]
    rfl
  refine pure_ (i := 2) (N := some 83) (v := ?_) (a' := ?_) #[true, true, true, false, false, false, false, false, false, false, false, false, false, false, false, false, false, false, false, false, false, false, false, false] rfl rfl (any_of HT_.out (by kernel_rfl)) (fun _ _ _ h => h) (Or.inl ⟨by rfl, ?_⟩) ?_ ?_
  rotate_left
  · intro w'
    go_simp
    with_reducible rfl
  rotate_left
  · simp only [Act.put, List.setIfInBounds_toArray, List.set_cons_zero, List.set_cons_succ, i64_w, i32_w]
    rfl
  refine pure_ (i := 3) (N := some 84) (v := ?_) (a' := ?_) #[true, true, true, true, false, false, false, false, false, false, false, false, false, false, false, false, false, false, false, false, false, false, false, false] rfl rfl (any_of HT_.out (by kernel_rfl)) (fun _ _ _ h => h) (Or.inl ⟨by rfl, ?_⟩) ?_ ?_
  rotate_left
  · intro w'
    go_simp
    with_reducible rfl
  rotate_left
  · simp only [Act.put, List.setIfInBounds_toArray, List.set_cons_zero, List.set_cons_succ, i64_w, i32_w]
    rfl
  refine pure_ (i := 5) (N := some 86) (v := ?_) (a' := ?_) #[true, true, true, true, false, true, false, false, false, false, false, false, false, false, false, false, false, false, false, false, false, false, false, false] rfl rfl (any_of HT_.out (by kernel_rfl)) (fun _ _ _ h => h) (Or.inl ⟨by rfl, ?_⟩) ?_ ?_
  rotate_left
  · intro w'
    go_simp
    with_reducible rfl
  rotate_left
  · simp only [Act.put, List.setIfInBounds_toArray, List.set_cons_zero, List.set_cons_succ, i64_w, i32_w]
    rfl
  refine pure_ (i := 6) (N := some 87) (v := ?_) (a' := ?_) #[true, true, true, true, false, true, true, false, false, false, false, false, false, false, false, false, false, false, false, false, false, false, false, false] rfl rfl (any_of HT_.out (by kernel_rfl)) (fun _ _ _ h => h) (Or.inl ⟨by rfl, ?_⟩) ?_ ?_
  rotate_left
  · intro w'
    go_simp
    with_reducible rfl
  rotate_left
  · simp only [Act.put, List.setIfInBounds_toArray, List.set_cons_zero, List.set_cons_succ, i64_w, i32_w]
    rfl
  refine pure_ (i := 8) (N := some 89) (v := ?_) (a' := ?_) #[true, true, true, true, false, true, true, false, true, false, false, false, false, false, false, false, false, false, false, false, false, false, false, false] rfl rfl (any_of HT_.out (by kernel_rfl)) (fun _ _ _ h => h) (Or.inl ⟨by rfl, ?_⟩) ?_ ?_
  rotate_left
  · intro w'
    go_simp
    with_reducible rfl
  rotate_left
  · simp only [Act.put, List.setIfInBounds_toArray, List.set_cons_zero, List.set_cons_succ, i64_w, i32_w]
    rfl
  refine pure_ (i := 9) (N := some 90) (v := ?_) (a' := ?_) #[true, true, true, true, false, true, true, false, true, true, false, false, false, false, false, false, false, false, false, false, false, false, false, false] rfl rfl (any_of HT_.out (by kernel_rfl)) (fun _ _ _ h => h) (Or.inl ⟨by rfl, ?_⟩) ?_ ?_
  rotate_left
  · intro w'
    go_simp
    with_reducible rfl
  rotate_left
  · simp only [Act.put, List.setIfInBounds_toArray, List.set_cons_zero, List.set_cons_succ, i64_w, i32_w]
    rfl
  refine pure_ (i := 11) (N := some 92) (v := ?_) (a' := ?_) #[true, true, true, true, false, true, true, false, true, true, false, true, false, false, false, false, false, false, false, false, false, false, false, false] rfl rfl (any_of HT_.out (by kernel_rfl)) (fun _ _ _ h => h) (Or.inl ⟨by rfl, ?_⟩) ?_ ?_
  rotate_left
  · intro w'
    go_simp
    with_reducible rfl
  rotate_left
  · simp only [Act.put, List.setIfInBounds_toArray, List.set_cons_zero, List.set_cons_succ, i64_w, i32_w]
    rfl
  refine pure_ (i := 12) (N := some 93) (v := ?_) (a' := ?_) #[true, true, true, true, false, true, true, false, true, true, false, true, true, false, false, false, false, false, false, false, false, false, false, false] rfl rfl (any_of HT_.out (by kernel_rfl)) (fun _ _ _ h => h) (Or.inl ⟨by rfl, ?_⟩) ?_ ?_
  rotate_left
  · intro w'
    go_simp
    with_reducible rfl
  rotate_left
  · simp only [Act.put, List.setIfInBounds_toArray, List.set_cons_zero, List.set_cons_succ, i64_w, i32_w]
    rfl
  refine pure_ (i := 14) (N := some 95) (v := ?_) (a' := ?_) #[true, true, true, true, false, true, true, false, true, true, false, true, true, false, true, false, false, false, false, false, false, false, false, false] rfl rfl (any_of HT_.out (by kernel_rfl)) (fun _ _ _ h => h) (Or.inl ⟨by rfl, ?_⟩) ?_ ?_
  rotate_left
  · intro w'
    go_simp
    with_reducible rfl
  rotate_left
  · simp only [Act.put, List.setIfInBounds_toArray, List.set_cons_zero, List.set_cons_succ, i64_w, i32_w]
    rfl
  refine pure_ (i := 15) (N := some 96) (v := ?_) (a' := ?_) #[true, true, true, true, false, true, true, false, true, true, false, true, true, false, true, true, false, false, false, false, false, false, false, false] rfl rfl (any_of HT_.out (by kernel_rfl)) (fun _ _ _ h => h) (Or.inl ⟨by rfl, ?_⟩) ?_ ?_
  rotate_left
  · intro w'
    go_simp
    with_reducible rfl
  rotate_left
  · simp only [Act.put, List.setIfInBounds_toArray, List.set_cons_zero, List.set_cons_succ, i64_w, i32_w]
    rfl
  refine take_ (i := 4) (N := some 85) (v := ?_) (a' := ?_) #[true, true, true, true, true, true, true, false, true, true, false, true, true, false, true, true, false, false, false, false, false, false, false, false] rfl rfl (take_ofW HT_.out HW_.out (by kernel_rfl)) (fun _ _ _ h => h) (Or.inl ⟨by rfl, ?_⟩) hHeld ?_ ?_
  rotate_left
  · rintro w' ⟨s0, s1, s2, s3, s4⟩
    go_simp
    with_reducible rfl
  rotate_left
  · simp only [Act.put, List.setIfInBounds_toArray, List.set_cons_zero, List.set_cons_succ, i64_w, i32_w]
    rfl
  refine take_ (i := 7) (N := some 88) (v := ?_) (a' := ?_) #[true, true, true, true, true, true, true, true, true, true, false, true, true, false, true, true, false, false, false, false, false, false, false, false] rfl rfl (take_ofW HT_.out HW_.out (by kernel_rfl)) (fun _ _ _ h => h) (Or.inl ⟨by rfl, ?_⟩) hHeld ?_ ?_
  rotate_left
  · rintro w' ⟨s0, s1, s2, s3, s4⟩
    go_simp
    with_reducible rfl
  rotate_left
  · simp only [Act.put, List.setIfInBounds_toArray, List.set_cons_zero, List.set_cons_succ, i64_w, i32_w]
    rfl
  refine take_ (i := 10) (N := some 91) (v := ?_) (a' := ?_) #[true, true, true, true, true, true, true, true, true, true, true, true, true, false, true, true, false, false, false, false, false, false, false, false] rfl rfl (take_ofW HT_.out HW_.out (by kernel_rfl)) (fun _ _ _ h => h) (Or.inl ⟨by rfl, ?_⟩) hHeld ?_ ?_
  rotate_left
  · rintro w' ⟨s0, s1, s2, s3, s4⟩
    go_simp
    with_reducible rfl
  rotate_left
  · simp only [Act.put, List.setIfInBounds_toArray, List.set_cons_zero, List.set_cons_succ, i64_w, i32_w]
    rfl
  refine take_ (i := 13) (N := some 94) (v := ?_) (a' := ?_) #[true, true, true, true, true, true, true, true, true, true, true, true, true, true, true, true, false, false, false, false, false, false, false, false] rfl rfl (take_ofW HT_.out HW_.out (by kernel_rfl)) (fun _ _ _ h => h) (Or.inl ⟨by rfl, ?_⟩) hHeld ?_ ?_
  rotate_left
  · rintro w' ⟨s0, s1, s2, s3, s4⟩
    go_simp
    with_reducible rfl
  rotate_left
  · simp only [Act.put, List.setIfInBounds_toArray, List.set_cons_zero, List.set_cons_succ, i64_w, i32_w]
    rfl
  refine take_ (i := 16) (N := some 97) (v := ?_) (a' := ?_) #[true, true, true, true, true, true, true, true, true, true, true, true, true, true, true, true, true, false, false, false, false, false, false, false] rfl rfl (take_ofW HT_.out HW_.out (by kernel_rfl)) (fun _ _ _ h => h) (Or.inl ⟨by rfl, ?_⟩) hHeld ?_ ?_
  rotate_left
  · rintro w' ⟨s0, s1, s2, s3, s4⟩
    go_simp
    with_reducible rfl
  rotate_left
  · simp only [Act.put, List.setIfInBounds_toArray, List.set_cons_zero, List.set_cons_succ, i64_w, i32_w]
    rfl
  refine pure_ (i := 17) (N := some 98) (v := ?_) (a' := ?_) #[true, true, true, true, true, true, true, true, true, true, true, true, true, true, true, true, true, true, false, false, false, false, false, false] rfl rfl (any_of HT_.out (by kernel_rfl)) (fun _ _ _ h => h) (Or.inl ⟨by rfl, ?_⟩) ?_ ?_
  rotate_left
  · intro w'
    go_simp
    with_reducible rfl
  rotate_left
  · simp only [Act.put, List.setIfInBounds_toArray, List.set_cons_zero, List.set_cons_succ, i64_w, i32_w]
    rfl
  refine pure_ (i := 18) (N := some 99) (v := ?_) (a' := ?_) #[true, true, true, true, true, true, true, true, true, true, true, true, true, true, true, true, true, true, true, false, false, false, false, false] rfl rfl (any_of HT_.out (by kernel_rfl)) (fun _ _ _ h => h) (Or.inl ⟨by rfl, ?_⟩) ?_ ?_
  rotate_left
  · intro w'
    go_simp
    with_reducible rfl
  rotate_left
  · simp only [Act.put, List.setIfInBounds_toArray, List.set_cons_zero, List.set_cons_succ, i64_w, i32_w]
    rfl
  refine one_ (i := 19) (N := some 100) #[true, true, true, true, true, true, true, true, true, true, true, true, true, true, true, true, true, true, true, true, false, false, false, false] rfl rfl (one_of HT_.out (by kernel_rfl)) (by decide) (fun K hK => ?_)
  refine event_step (v := .slice (some ⟨w2.heap.size, 0, none⟩) 1 1) (w1 := w2.alloc (.cells #[.int .i64 a, .int .i64 b, .int .i64 c, .bool false, .slice none 0 0] 57)) (by rfl) (by first | (go_simp; done) | (go_simp; rfl)) ?_
  refine hK.out _ _ ⟨pw_cell_below (below_alloc (Below.refl _ w2) (.cells #[.int .i64 a, .int .i64 b, .int .i64 c, .bool false, .slice none 0 0] 57)) ((blk_cell BK.out 0).trans rfl), pw_cell_below (below_alloc (Below.refl _ w2) (.cells #[.int .i64 a, .int .i64 b, .int .i64 c, .bool false, .slice none 0 0] 57)) (num_cell HR.out 0 a rfl), pw_cell_below (below_alloc (Below.refl _ w2) (.cells #[.int .i64 a, .int .i64 b, .int .i64 c, .bool false, .slice none 0 0] 57)) (num_cell HR.out 1 b rfl), pw_cell_below (below_alloc (Below.refl _ w2) (.cells #[.int .i64 a, .int .i64 b, .int .i64 c, .bool false, .slice none 0 0] 57)) (num_cell HR.out 2 c rfl), pw_cell_below (below_alloc (Below.refl _ w2) (.cells #[.int .i64 a, .int .i64 b, .int .i64 c, .bool false, .slice none 0 0] 57)) (num_cell HR.out 3 0 rfl)⟩ (fun hHeld => ?_)
  clear hK K
  refine norm_ (a' := ?_) ?_ ?_
  rotate_left
  · show Act.put _ (some 100) _ = _
    simp only [Act.put, List.setIfInBounds_toArray, List.set_cons_zero, List.set_cons_succ, i64_w, i32_w]
    rfl
  refine one_ (i := 20) (N := some 101) #[true, true, true, true, true, true, true, true, true, true, true, true, true, true, true, true, true, true, true, true, true, false, false, false] rfl rfl (one_of HT_.out (by kernel_rfl)) (by decide) (fun K hK => ?_)
  refine Kd.S_append_step k57q (w0 := w) base (by rfl) (.tmp 85) (.tmp 100) 33 57 (.agg #[.int .i64 0, .int .i64 0, .int .i64 0, .bool false, .slice none 0 0]) 56 (by rfl) Tryd.underlying33 info57 (by rfl) (by decide) (by omega) P ps ⟨a, b, c, false, []⟩ [.int .i64 a, .int .i64 b, .int .i64 c, .bool false, .slice none 0 0] (fun k => (okP k ∧ k < w2.heap.size) ∨ w2.heap.size ≤ k) (fun _ => False) (by rfl) (by rfl) (k57q_mkM _ _ _ ⟨a, b, c, false, []⟩ (Kd.S_nil _ _ _ _ _)) (fun _ h => h.elim) (fun k hk => Or.inr hk) (Kd.S_mono (Kd.S_bound HP.out) (fun k hk => ⟨Or.inl ⟨hk.1, hk.2.2.1⟩, fun h => h⟩)) ?aB ?aS ?aL ?_
  case aB => exact HB.out.mono HBW.out
  case aS => exact Nat.le_trans HBW.out HB.out.size
  case aL => have := HPS.out; omega
  intro P1 w3 hP1 hb1 hg1 hat1
  obtain ⟨PA, PN, PC, rfl⟩ : ∃ PA PN PC, P1 = .slice PA PN PC := by
    obtain ⟨A, c, e⟩ := Kd.S_slice hP1
    exact ⟨A, _, c, e⟩
  have n0_ := Aside0.mk (blk_grown BK.out hg1 (Kd.S_ne HP.out BK.out (by decide)))
  have n1_ := Aside0.mk (Kd.R_over' HR.out (Kd.S_typed HP.out) ne57 hg1)
  have n3_ := Aside0.mk (Kd.S_over' (Kd.S_mono (Kd.S_bound HT.out) (fun k hk => (⟨hk.1, hk.2.2.1⟩ : okT k ∧ k < w2.heap.size))) (Kd.S_typed HP.out) ne54 hg1)
  have HP1 := Aside0.mk hP1
  have HB1 := Aside0.mk hb1
  clear hP1 hb1 hg1 hat1 BK HR HP HT
  have BK := n0_
  have HR := n1_
  have HT := n3_
  clear n0_ n1_ n3_
  refine hK.out _ _ ⟨(blk_cell BK.out 0).trans rfl, num_cell HR.out 0 a rfl, num_cell HR.out 1 b rfl, num_cell HR.out 2 c rfl, num_cell HR.out 3 0 rfl⟩ (fun hHeld => ?_)
  clear hK K
  refine norm_ (a' := ?_) ?_ ?_
  rotate_left
  · show Act.put _ (some 101) _ = _
    simp only [Act.put, List.setIfInBounds_toArray, List.set_cons_zero, List.set_cons_succ, i64_w, i32_w]
    rfl
  refine pure_ (i := 21) (N := some 102) (v := ?_) (a' := ?_) #[true, true, true, true, true, true, true, true, true, true, true, true, true, true, true, true, true, true, true, true, true, true, false, false] rfl rfl (any_of HT_.out (by kernel_rfl)) (fun _ _ _ h => h) (Or.inl ⟨by rfl, ?_⟩) ?_ ?_
  rotate_left
  · intro w'
    go_simp
    with_reducible rfl
  rotate_left
  · simp only [Act.put, List.setIfInBounds_toArray, List.set_cons_zero, List.set_cons_succ, i64_w, i32_w]
    rfl
  refine pure_ (i := 22) (N := some 103) (v := ?_) (a' := ?_) #[true, true, true, true, true, true, true, true, true, true, true, true, true, true, true, true, true, true, true, true, true, true, true, false] rfl rfl (any_of HT_.out (by kernel_rfl)) (fun _ _ _ h => h) (Or.inl ⟨by rfl, ?_⟩) ?_ ?_
  rotate_left
  · intro w'
    go_simp
    with_reducible rfl
  rotate_left
  · simp only [Act.put, List.setIfInBounds_toArray, List.set_cons_zero, List.set_cons_succ, i64_w, i32_w]
    rfl
  have z0 := blk_frozen BK.out 0
  have z1 : w3.cell? ⟨g, 0, none⟩ = some P := (blk_cell BK.out 0).trans rfl
  refine last_ (i := 23) (N := none) #[true, true, true, true, true, true, true, true, true, true, true, true, true, true, true, true, true, true, true, true, true, true, true, true] rfl rfl (one_of HT_.out (by kernel_rfl)) (by decide) (fun K hK => ?_)
  refine store_step (w1 := w3.setCell ⟨g, 0, none⟩ (.slice PA PN PC)) (by rfl) rfl (by first | (go_simp; done) | (go_simp; rfl)) ?_
  refine hK.out _ _ ?_
  clear hK K
  refine done_ (done_of HT_.out (by kernel_rfl)) ?_
  have n0_ := Aside0.mk (blk_put (cs := #[P, T]) (cs' := #[.slice PA PN PC, T]) BK.out 0 (.slice PA PN PC) rfl)
  have n1_ := Aside0.mk (Kd.S_set HP1.out BK.out ne57u 0 (.slice PA PN PC))
  have n2_ := Aside0.mk (Kd.S_set HT.out BK.out ne54u 0 (.slice PA PN PC))
  have n3_ : Aside0 (Fr base g w (w3.setCell ⟨g, 0, none⟩ (.slice PA PN PC))) := ⟨fr_set HB1.out 0 (.slice PA PN PC)⟩
  generalize w3.setCell ⟨g, 0, none⟩ (.slice PA PN PC) = w4 at n0_ n1_ n2_ n3_ ⊢
  go_wp2
  go_returns
  exact ⟨rfl, ⟨_, T, _, _, n0_.out, n1_.out, n2_.out, fun k h1 h2 => h1.elim (fun h => HAP.out k h.1 h2.1) (fun h => Nat.lt_irrefl _ (Nat.lt_of_lt_of_le h2.2 h))⟩, n3_.out⟩
set_option maxRecDepth 100000 in
set_option maxHeartbeats 4000000 in
theorem add_bad (p : Value) (s wd : ByteArray) (n : List Int) (w : World) (hL : LW w) (hs : s.size < 4294967281) (h : readOf s = some (wd, n)) (hn : oneOf wd n = none) (ht : (wd.toList == [116, 121, 112, 101]) = false) (hp : (wd.toList == [112, 114, 111, 103]) = false) :
    Calls Tryd.prog 49 #[p, .string s] w fun e w' => e = .returned (.bool false) ∧ Below w.heap.size w w' := by
  have HL := Aside0.mk hL
  have HH := Aside0.mk h
  have HN := Aside0.mk hn
  clear hL h hn
  go_enter Tryd.func49, Tryd.ntmps49
  go_wp2_with (first
    | (go_at_call 61; refine (read_yes s _ _ _ hs HL.out HH.out).mono ?_; rintro e w1 ⟨v, rfl, hr, hb⟩; have HR := Aside0.mk hr; have HB := Aside0.mk hb; clear hr hb)
    | (go_at_call 62; refine (one_any wd (Kd.Q_of_R HR.out)).mono ?_; rw [HN.out]; rintro e w2 ⟨⟨a0, b0, c0, rfl⟩, hb⟩; have HB2 := Aside0.mk (below_then HB.out HB.out.size hb); clear hb)
    | ((with_reducible refine gate_dst (N := 8) rfl ?_); refine box_event ?hg (N := 8) ?hd (cs := #[.int .i64 0, .int .i64 0, .int .i64 0, .slice none 0 0]) (t := 28) ?hr ?_; (case hd => rfl); (case hg => rfl); (case hr => first | (go_simp; done) | (go_simp; rfl)); intro g8 hg w3 hbox hb; have BK8 := Aside0.mk hbox; have GE8 := Aside0.mk (show w.heap.size ≤ g8 by rw [hg]; exact HB2.out.size); have HB3 := Aside0.mk (below_then HB2.out HB2.out.size hb); clear hg hbox hb)
    | (refine wpList_store_row rfl 28 (.tmp 8) (.tmp 108) rfl g8 #[.int .i64 a0, .int .i64 b0, .int .i64 c0, .slice none 0 0] rfl rfl 28 _ BK8.out (by kernel_rfl) rfl (by kernel_rfl) ?_; have HB4 := Aside0.mk (below_setRow HB3.out GE8.out #[.int .i64 a0, .int .i64 b0, .int .i64 c0, .slice none 0 0]); generalize w3.setRow g8 #[.int .i64 a0, .int .i64 b0, .int .i64 c0, .slice none 0 0] = w4 at HB4 ⊢))
  go_returns
  exact ⟨rfl, HB4.out⟩
end Go.Proofs.YtfkfgjmhcfagkaaDoor.Given
end
section
namespace Go.Proofs.YtfkfgjmhcfagkaaDoor.Given
open Go.RowKit Go.Proofs.YtfkfgjmhcfagkaaDoorW.PrintWords Go.Proofs.YtfkfgjmhcfagkaaDoorW.PrintLast Go.Proofs.YtfkfgjmhcfagkaaDoorW.PrintMore Go.Proofs.YtfkfgjmhcfagkaaDoor.Print
set_option linter.unusedVariables false
set_option linter.unusedSimpArgs false
theorem ne57t : ∀ q, q ∈ 57 :: k57q.E → q ≠ 54 := by decide
theorem ne3t : ∀ q, q ∈ 3 :: (Kd.int .i64).E → q ≠ 54 := by decide
theorem slice_two (A : Option Addr) (n c : Nat) (hn : n + 2 ≤ c) : ∃ A1 c1, (∀ W : World, (Instr.slice 26 (.slice A (n + 2) c) (some (.int .i64 2)) none none).run Tryd.prog W = .ok (.slice A1 n c1) W) ∧
    Aside0 (A1 = (if c = 2 then A else A.map (·.add (2 * (Kd.int .i64).sz))) ∧ c1 = c - 2) := by
  obtain ⟨i0, hi0, _, hsz, _⟩ := info_parts info3
  have h := cut_from (P := Tryd.prog) 26 3 .i64 Tryd.underlying26 hi0 1 hsz A (n + 2) c 2 (by omega) (by omega)
  refine ⟨_, _, fun W => ?_, ⟨rfl, rfl⟩⟩
  have := h W
  simpa [show (Kd.int .i64).sz = 1 from rfl] using this
theorem R_two {w : World} {base : Nat} {ok : Nat → Prop} {v : Value} {a b : Int} {l : List Int} (h : (Kd.int .i64).R 3 w base ok v (a :: b :: l)) :
    ∃ gl cl, v = .slice (some ⟨gl, 0, none⟩) (l.length + 2) cl ∧ base ≤ gl ∧ l.length + 2 ≤ cl ∧ (Kd.int .i64).R 3 w base ok (.slice (some ⟨gl, 0, none⟩) (l.length + 2) cl) (a :: b :: l) := by
  obtain ⟨gl, cl, rfl, hb, _⟩ := Kd.R_form h (by simp)
  have hlen : (a :: b :: l).length = l.length + 2 := by simp
  rw [hlen] at h
  exact ⟨gl, cl, by rw [hlen], hb, (Kd.R_reads' h).2.1, h⟩
def a7T : Bool × List (List Nat × List Nat) := (true, [([], []), ([], []), ([1], [1]), ([2], [2]), ([3], [3]), ([], []), ([5], [5]), ([6], [6]), ([], []), ([8], [8]), ([9], [9]), ([10], [10]), ([], []), ([12], [12]), ([7, 11, 13], [7, 11, 13]), ([14], [14]), ([4, 15], [4, 15]), ([0, 0, 1, 2, 3, 4, 5, 6, 7, 8, 9, 10, 11, 12, 13, 14, 15, 16], [0]), ([17, 0, 1, 2, 3, 4, 5, 6, 7, 8, 9, 10, 11, 12, 13, 14, 15, 16], [17]), ([18, 16, 16, 0, 1, 2, 3, 4, 5, 6, 7, 8, 9, 10, 11, 12, 13, 14, 15, 16], [16, 18])])
def a7B : List Nat := [0, 0, 2, 6, 14, 0, 32, 96, 0, 256, 768, 1792, 0, 4096, 16352, 32736, 65534, 131071, 262143, 524287]
theorem a7tab : rtab .any (opsOf Tryd.f49 7) = a7T := by kernel_rfl
theorem a7bits : waitsOk a7T.2 a7B = true := by kernel_rfl
set_option maxRecDepth 100000 in
set_option maxHeartbeats 4000000 in
theorem add_type0 (base g : Nat) (ts : List S54) (s : ByteArray) (a : Int) (r : List Int) (w : World) (hL : LW w) (hs : s.size < 4294967281) (h : readOf s = some (typeWord, a :: 0 :: r)) (hU : UnitAt w base g [] ts) (hgb : g < base) (hbw : base ≤ w.heap.size) (hts : ts.length + 1 ≤ 4294967296) :
    Calls Tryd.prog 49 #[.pointer (some ⟨g, 0, none⟩), .string s] w fun e w' => e = .returned (.bool true) ∧ UnitAt w' base g [] (ts ++ [⟨a, r, false⟩]) ∧ Fr base g w w' := by
  have hu54 := Tryd.underlying54
  rw [show typeWord = ⟨#[116, 121, 112, 101]⟩ from rfl] at h
  obtain ⟨P, T, okP, okT, hbk, hP, hT, hap⟩ := hU
  obtain ⟨PA, PC, rfl⟩ := Kd.S_slice hP
  have BK := Aside0.mk hbk
  have HP := Aside0.mk (Kd.S_bound hP)
  have HT := Aside0.mk (Kd.S_mono (Kd.S_bound hT) (fun k hk => (⟨hk.1, hk.2.2.1⟩ : okT k ∧ k < w.heap.size)))
  have HAP := Aside0.mk hap
  have HL := Aside0.mk hL
  have HH := Aside0.mk h
  have HBW := Aside0.mk hbw
  have HGB := Aside0.mk hgb
  have HTS := Aside0.mk hts
  have hr1 : ¬ ((r.length : Int) + 2 < 2) := by omega
  have hr2 : (0 : Int) < (r.length : Int) + 2 := by omega
  have hr3 : (1 : Int) < (r.length : Int) + 2 := by omega
  clear hbk hP hT hap hL h hbw hgb hts
  go_enter Tryd.func49, Tryd.ntmps49
  go_wp2_with (go_at_call 61; refine (read_yes s _ _ _ hs HL.out HH.out).mono ?_; rintro e w1 ⟨v, rfl, hr, hb⟩; obtain ⟨gn, cn, rfl, hgn, hcn, hr'⟩ := R_two hr; have HR := Aside0.mk hr'; have HB := Aside0.mk hb; clear hr hr' hb; have x1 : w1.cell? ⟨gn, 1, none⟩ = some (.int .i64 0) := num_cell HR.out 1 0 rfl; have x0 : w1.cell? ⟨g, 0, none⟩ = some (.slice PA 0 PC) := (blk_cell (blk_below BK.out HB.out) 0).trans rfl)
  clear x0 x1
  have n0_ := Aside0.mk (blk_drew (blk_below BK.out HB.out))
  have n1_ := Aside0.mk (Kd.R_drew HR.out)
  have n2_ := Aside0.mk (Kd.S_drew (Kd.S_below HP.out HB.out))
  have n3_ := Aside0.mk (Kd.S_drew (Kd.S_below HT.out HB.out))
  have n4_ := Aside0.mk (below_drew1 HB.out)
  obtain ⟨A2, c2, hcut, hA2⟩ := slice_two (some ⟨gn, 0, none⟩) r.length cn hcn
  refine start_ (n := 20) (S := fun w' => w'.cell? ⟨g, 1, none⟩ = some (T) ∧ w'.cell? ⟨gn, 0, none⟩ = some (.int .i64 a) ∧ w'.cell? ⟨gn, 1, none⟩ = some (.int .i64 0)) (ds := [19]) #[false, false, false, false, false, false, false, false, false, false, false, false, false, false, false, false, false, false, false, false] (by kernel_rfl) rfl rfl ⟨(blk_cell n0_.out 1).trans rfl, num_cell n1_.out 0 a rfl, num_cell n1_.out 1 0 rfl⟩ (fun hHeld => ?_)
  refine with_tabW a7tab a7bits (fun HT_ HW_ => ?_)
  generalize w1.drew = w2 at n0_ n1_ n2_ n3_ n4_ hHeld ⊢
  clear BK HR HP HT HB
  have BK := n0_
  have HR := n1_
  have HP := n2_
  have HT := n3_
  have HB := n4_
  clear n0_ n1_ n2_ n3_ n4_
  have HQ : Aside0 ((Kd.int .i64).Q 3 w2 base (fun k => w.heap.size ≤ k ∧ k < w2.heap.size) (.slice A2 r.length c2) r) := ⟨by
    have q := Kd.Q_drop (Kd.Q_of_R (Kd.R_mono (Kd.R_bound HR.out) (fun k hk => (⟨hk.2.1, hk.2.2.1⟩ : w.heap.size ≤ k ∧ k < w2.heap.size)))) (k := 2) (by simp)
    rw [hA2.out.1, hA2.out.2]
    exact Kd.Q_lower q HBW.out⟩
  refine pure_ (i := 0) (N := some 44) (v := ?_) (a' := ?_) #[true, false, false, false, false, false, false, false, false, false, false, false, false, false, false, false, false, false, false, false] rfl rfl (any_of HT_.out (by kernel_rfl)) (fun _ _ _ h => h) (Or.inl ⟨by rfl, ?_⟩) ?_ ?_
  rotate_left
  · intro w'
    go_simp
    with_reducible rfl
  rotate_left
  · simp only [Act.put, List.setIfInBounds_toArray, List.set_cons_zero, List.set_cons_succ, i64_w, i32_w]
    rfl
  refine pure_ (i := 1) (N := some 45) (v := ?_) (a' := ?_) #[true, true, false, false, false, false, false, false, false, false, false, false, false, false, false, false, false, false, false, false] rfl rfl (any_of HT_.out (by kernel_rfl)) (fun _ _ _ h => h) (Or.inl ⟨by rfl, ?_⟩) ?_ ?_
  rotate_left
  · intro w'
    go_simp
    with_reducible rfl
  rotate_left
  · simp only [Act.put, List.setIfInBounds_toArray, List.set_cons_zero, List.set_cons_succ, i64_w, i32_w]
    rfl
  refine pure_ (i := 2) (N := some 46) (v := ?_) (a' := ?_) #[true, true, true, false, false, false, false, false, false, false, false, false, false, false, false, false, false, false, false, false] rfl rfl (any_of HT_.out (by kernel_rfl)) (fun _ _ _ h => h) (Or.inl ⟨by rfl, ?_⟩) ?_ ?_
  rotate_left
  · intro w'
    go_simp
    with_reducible rfl
  rotate_left
  · simp only [Act.put, List.setIfInBounds_toArray, List.set_cons_zero, List.set_cons_succ, i64_w, i32_w]
    rfl
  refine pure_ (i := 3) (N := some 47) (v := ?_) (a' := ?_) #[true, true, true, true, false, false, false, false, false, false, false, false, false, false, false, false, false, false, false, false] rfl rfl (any_of HT_.out (by kernel_rfl)) (fun _ _ _ h => h) (Or.inl ⟨by rfl, ?_⟩) ?_ ?_
  rotate_left
  · intro w'
    go_simp
    with_reducible rfl
  rotate_left
  · simp only [Act.put, List.setIfInBounds_toArray, List.set_cons_zero, List.set_cons_succ, i64_w, i32_w]
    rfl
  refine pure_ (i := 5) (N := some 49) (v := ?_) (a' := ?_) #[true, true, true, true, false, true, false, false, false, false, false, false, false, false, false, false, false, false, false, false] rfl rfl (any_of HT_.out (by kernel_rfl)) (fun _ _ _ h => h) (Or.inl ⟨by rfl, ?_⟩) ?_ ?_
  rotate_left
  · intro w'
    go_simp
    with_reducible rfl
  rotate_left
  · simp only [Act.put, List.setIfInBounds_toArray, List.set_cons_zero, List.set_cons_succ, i64_w, i32_w]
    rfl
  refine pure_ (i := 6) (N := some 50) (v := ?_) (a' := ?_) #[true, true, true, true, false, true, true, false, false, false, false, false, false, false, false, false, false, false, false, false] rfl rfl (any_of HT_.out (by kernel_rfl)) (fun _ _ _ h => h) (Or.inl ⟨by rfl, ?_⟩) ?_ ?_
  rotate_left
  · intro w'
    go_simp
    with_reducible rfl
  rotate_left
  · simp only [Act.put, List.setIfInBounds_toArray, List.set_cons_zero, List.set_cons_succ, i64_w, i32_w]
    rfl
  refine pure_ (i := 8) (N := some 52) (v := ?_) (a' := ?_) #[true, true, true, true, false, true, true, false, true, false, false, false, false, false, false, false, false, false, false, false] rfl rfl (any_of HT_.out (by kernel_rfl)) (fun _ _ _ h => h) (Or.inl ⟨by rfl, ?_⟩) ?_ ?_
  rotate_left
  · intro w'
    go_simp
    with_reducible rfl
  rotate_left
  · simp only [Act.put, List.setIfInBounds_toArray, List.set_cons_zero, List.set_cons_succ, i64_w, i32_w]
    rfl
  refine pure_ (i := 9) (N := some 53) (v := ?_) (a' := ?_) #[true, true, true, true, false, true, true, false, true, true, false, false, false, false, false, false, false, false, false, false] rfl rfl (any_of HT_.out (by kernel_rfl)) (fun _ _ _ h => h) (Or.inl ⟨by rfl, ?_⟩) ?_ ?_
  rotate_left
  · intro w'
    go_simp
    with_reducible rfl
  rotate_left
  · simp only [Act.put, List.setIfInBounds_toArray, List.set_cons_zero, List.set_cons_succ, i64_w, i32_w]
    rfl
  refine pure_ (i := 12) (N := some 56) (v := ?_) (a' := ?_) #[true, true, true, true, false, true, true, false, true, true, false, false, true, false, false, false, false, false, false, false] rfl rfl (any_of HT_.out (by kernel_rfl)) (fun _ _ _ h => h) (Or.inl ⟨by rfl, ?_⟩) ?_ ?_
  rotate_left
  · intro w'
    go_simp
    with_reducible rfl
  rotate_left
  · simp only [Act.put, List.setIfInBounds_toArray, List.set_cons_zero, List.set_cons_succ, i64_w, i32_w]
    rfl
  refine pure_ (i := 13) (N := some 57) (v := ?_) (a' := ?_) #[true, true, true, true, false, true, true, false, true, true, false, false, true, true, false, false, false, false, false, false] rfl rfl (any_of HT_.out (by kernel_rfl)) (fun _ _ _ h => h) (Or.inl ⟨by rfl, ?_⟩) ?_ ?_
  rotate_left
  · intro w'
    go_simp
    with_reducible rfl
  rotate_left
  · simp only [Act.put, List.setIfInBounds_toArray, List.set_cons_zero, List.set_cons_succ, i64_w, i32_w]
    rfl
  refine take_ (i := 4) (N := some 48) (v := ?_) (a' := ?_) #[true, true, true, true, true, true, true, false, true, true, false, false, true, true, false, false, false, false, false, false] rfl rfl (take_ofW HT_.out HW_.out (by kernel_rfl)) (fun _ _ _ h => h) (Or.inl ⟨by rfl, ?_⟩) hHeld ?_ ?_
  rotate_left
  · rintro w' ⟨s0, s1, s2⟩
    go_simp
    with_reducible rfl
  rotate_left
  · simp only [Act.put, List.setIfInBounds_toArray, List.set_cons_zero, List.set_cons_succ, i64_w, i32_w]
    rfl
  refine take_ (i := 7) (N := some 51) (v := ?_) (a' := ?_) #[true, true, true, true, true, true, true, true, true, true, false, false, true, true, false, false, false, false, false, false] rfl rfl (take_ofW HT_.out HW_.out (by kernel_rfl)) (fun _ _ _ h => h) (Or.inl ⟨by rfl, ?_⟩) hHeld ?_ ?_
  rotate_left
  · rintro w' ⟨s0, s1, s2⟩
    go_simp
    with_reducible rfl
  rotate_left
  · simp only [Act.put, List.setIfInBounds_toArray, List.set_cons_zero, List.set_cons_succ, i64_w, i32_w]
    rfl
  refine take_ (i := 10) (N := some 54) (v := ?_) (a' := ?_) #[true, true, true, true, true, true, true, true, true, true, true, false, true, true, false, false, false, false, false, false] rfl rfl (take_ofW HT_.out HW_.out (by kernel_rfl)) (fun _ _ _ h => h) (Or.inl ⟨by rfl, ?_⟩) hHeld ?_ ?_
  rotate_left
  · rintro w' ⟨s0, s1, s2⟩
    go_simp
    with_reducible rfl
  rotate_left
  · simp only [Act.put, List.setIfInBounds_toArray, List.set_cons_zero, List.set_cons_succ, i64_w, i32_w]
    rfl
  refine pure_ (i := 11) (N := some 55) (v := ?_) (a' := ?_) #[true, true, true, true, true, true, true, true, true, true, true, true, true, true, false, false, false, false, false, false] rfl rfl (any_of HT_.out (by kernel_rfl)) (fun _ _ _ h => h) (Or.inl ⟨by rfl, ?_⟩) ?_ ?_
  rotate_left
  · intro w'
    go_simp
    with_reducible rfl
  rotate_left
  · simp only [Act.put, List.setIfInBounds_toArray, List.set_cons_zero, List.set_cons_succ, i64_w, i32_w]
    rfl
  refine pure_ (i := 14) (N := some 58) (v := ?_) (a' := ?_) #[true, true, true, true, true, true, true, true, true, true, true, true, true, true, true, false, false, false, false, false] rfl rfl (any_of HT_.out (by kernel_rfl)) (fun _ _ _ h => h) (Or.inl ⟨by rfl, ?_⟩) ?_ ?_
  rotate_left
  · intro w'
    go_simp
    with_reducible rfl
  rotate_left
  · simp only [Act.put, List.setIfInBounds_toArray, List.set_cons_zero, List.set_cons_succ, i64_w, i32_w]
    rfl
  refine one_ (i := 15) (N := some 59) #[true, true, true, true, true, true, true, true, true, true, true, true, true, true, true, true, false, false, false, false] rfl rfl (one_of HT_.out (by kernel_rfl)) (by decide) (fun K hK => ?_)
  refine event_step (v := .slice (some ⟨w2.heap.size, 0, none⟩) 1 1) (w1 := w2.alloc (.cells #[.int .i64 a, .slice A2 r.length c2, .bool false] 54)) (by rfl) (by first | (go_simp; done) | (go_simp; rfl)) ?_
  refine hK.out _ _ ⟨pw_cell_below (below_alloc (Below.refl _ w2) (.cells #[.int .i64 a, .slice A2 r.length c2, .bool false] 54)) ((blk_cell BK.out 1).trans rfl), pw_cell_below (below_alloc (Below.refl _ w2) (.cells #[.int .i64 a, .slice A2 r.length c2, .bool false] 54)) (num_cell HR.out 0 a rfl), pw_cell_below (below_alloc (Below.refl _ w2) (.cells #[.int .i64 a, .slice A2 r.length c2, .bool false] 54)) (num_cell HR.out 1 0 rfl)⟩ (fun hHeld => ?_)
  clear hK K
  refine norm_ (a' := ?_) ?_ ?_
  rotate_left
  · show Act.put _ (some 59) _ = _
    simp only [Act.put, List.setIfInBounds_toArray, List.set_cons_zero, List.set_cons_succ, i64_w, i32_w]
    rfl
  refine one_ (i := 16) (N := some 60) #[true, true, true, true, true, true, true, true, true, true, true, true, true, true, true, true, true, false, false, false] rfl rfl (one_of HT_.out (by kernel_rfl)) (by decide) (fun K hK => ?_)
  refine Kd.S_append_step k54q (w0 := w) base (by rfl) (.tmp 48) (.tmp 59) 34 54 (.agg #[.int .i64 0, .slice none 0 0, .bool false]) 40 (by rfl) Tryd.underlying34 info54 (by rfl) (by decide) (by omega) T ts ⟨a, r, false⟩ [.int .i64 a, .slice A2 r.length c2, .bool false] (fun k => (okT k ∧ k < w.heap.size) ∨ w.heap.size ≤ k) (fun k => w.heap.size ≤ k ∧ k < w2.heap.size) (by rfl) (by rfl) (k54q_mkM _ _ _ ⟨a, r, false⟩ HQ.out) ?aK (fun k hk => Or.inr (Nat.le_trans HB.out.size hk)) (Kd.S_mono HT.out (fun k hk => ⟨Or.inl hk, fun h => Nat.lt_irrefl _ (Nat.lt_of_lt_of_le hk.2 h.1)⟩)) ?aB ?aS ?aL ?_
  case aK => exact fun k hk => ⟨Or.inr hk.1, fun he => Nat.lt_irrefl _ (Nat.lt_of_lt_of_le ((Kd.S_R HT.out).1 k he.symm).2 hk.1)⟩
  case aB => exact HB.out.mono HBW.out
  case aS => exact Nat.le_trans HBW.out HB.out.size
  case aL => have := HTS.out; omega
  intro T1 w3 hT1 hb1 hg1 hat1
  obtain ⟨TA, TN, TC, rfl⟩ : ∃ TA TN TC, T1 = .slice TA TN TC := by
    obtain ⟨A, c, e⟩ := Kd.S_slice hT1
    exact ⟨A, _, c, e⟩
  have n0_ := Aside0.mk (blk_grown BK.out hg1 (Kd.S_ne HT.out BK.out (by decide)))
  have n1_ := Aside0.mk (Kd.R_over' HR.out (Kd.S_typed HT.out) ne3t hg1)
  have n3_ := Aside0.mk (Kd.S_over' HP.out (Kd.S_typed HT.out) ne57t hg1)
  have HT1 := Aside0.mk hT1
  have HB1 := Aside0.mk hb1
  clear hT1 hb1 hg1 hat1 BK HR HP HT HQ
  have BK := n0_
  have HR := n1_
  have HP := n3_
  clear n0_ n1_ n3_
  refine hK.out _ _ ⟨(blk_cell BK.out 1).trans rfl, num_cell HR.out 0 a rfl, num_cell HR.out 1 0 rfl⟩ (fun hHeld => ?_)
  clear hK K
  refine norm_ (a' := ?_) ?_ ?_
  rotate_left
  · show Act.put _ (some 60) _ = _
    simp only [Act.put, List.setIfInBounds_toArray, List.set_cons_zero, List.set_cons_succ, i64_w, i32_w]
    rfl
  refine pure_ (i := 17) (N := some 61) (v := ?_) (a' := ?_) #[true, true, true, true, true, true, true, true, true, true, true, true, true, true, true, true, true, true, false, false] rfl rfl (any_of HT_.out (by kernel_rfl)) (fun _ _ _ h => h) (Or.inl ⟨by rfl, ?_⟩) ?_ ?_
  rotate_left
  · intro w'
    go_simp
    with_reducible rfl
  rotate_left
  · simp only [Act.put, List.setIfInBounds_toArray, List.set_cons_zero, List.set_cons_succ, i64_w, i32_w]
    rfl
  refine pure_ (i := 18) (N := some 62) (v := ?_) (a' := ?_) #[true, true, true, true, true, true, true, true, true, true, true, true, true, true, true, true, true, true, true, false] rfl rfl (any_of HT_.out (by kernel_rfl)) (fun _ _ _ h => h) (Or.inl ⟨by rfl, ?_⟩) ?_ ?_
  rotate_left
  · intro w'
    go_simp
    with_reducible rfl
  rotate_left
  · simp only [Act.put, List.setIfInBounds_toArray, List.set_cons_zero, List.set_cons_succ, i64_w, i32_w]
    rfl
  have z0 := blk_frozen BK.out 1
  have z1 : w3.cell? ⟨g, 1, none⟩ = some T := (blk_cell BK.out 1).trans rfl
  refine last_ (i := 19) (N := none) #[true, true, true, true, true, true, true, true, true, true, true, true, true, true, true, true, true, true, true, true] rfl rfl (one_of HT_.out (by kernel_rfl)) (by decide) (fun K hK => ?_)
  refine store_step (w1 := w3.setCell ⟨g, 1, none⟩ (.slice TA TN TC)) (by rfl) rfl (by first | (go_simp; done) | (go_simp; rfl)) ?_
  refine hK.out _ _ ?_
  clear hK K
  refine done_ (done_of HT_.out (by kernel_rfl)) ?_
  have n0_ := Aside0.mk (blk_put (cs := #[.slice PA 0 PC, T]) (cs' := #[.slice PA 0 PC, (.slice TA TN TC)]) BK.out 1 (.slice TA TN TC) rfl)
  have n1_ := Aside0.mk (Kd.S_set HT1.out BK.out ne54u 1 (.slice TA TN TC))
  have n2_ := Aside0.mk (Kd.S_set HP.out BK.out ne57u 1 (.slice TA TN TC))
  have n3_ : Aside0 (Fr base g w (w3.setCell ⟨g, 1, none⟩ (.slice TA TN TC))) := ⟨fr_set HB1.out 1 (.slice TA TN TC)⟩
  generalize w3.setCell ⟨g, 1, none⟩ (.slice TA TN TC) = w4 at n0_ n1_ n2_ n3_ ⊢
  go_wp2
  go_returns
  exact ⟨rfl, ⟨_, _, _, _, n0_.out, n2_.out, n1_.out, fun k h1 h2 => h2.elim (fun h => HAP.out k h1.1 h.1) (fun h => Nat.lt_irrefl _ (Nat.lt_of_lt_of_le h1.2.2.1 h))⟩, n3_.out⟩
set_option maxRecDepth 100000 in
set_option maxHeartbeats 4000000 in
theorem add_type1 (base g : Nat) (ts : List S54) (s : ByteArray) (a : Int) (r : List Int) (w : World) (hL : LW w) (hs : s.size < 4294967281) (h : readOf s = some (typeWord, a :: 1 :: r)) (hU : UnitAt w base g [] ts) (hgb : g < base) (hbw : base ≤ w.heap.size) (hts : ts.length + 1 ≤ 4294967296) :
    Calls Tryd.prog 49 #[.pointer (some ⟨g, 0, none⟩), .string s] w fun e w' => e = .returned (.bool true) ∧ UnitAt w' base g [] (ts ++ [⟨a, r, true⟩]) ∧ Fr base g w w' := by
  have hu54 := Tryd.underlying54
  rw [show typeWord = ⟨#[116, 121, 112, 101]⟩ from rfl] at h
  obtain ⟨P, T, okP, okT, hbk, hP, hT, hap⟩ := hU
  obtain ⟨PA, PC, rfl⟩ := Kd.S_slice hP
  have BK := Aside0.mk hbk
  have HP := Aside0.mk (Kd.S_bound hP)
  have HT := Aside0.mk (Kd.S_mono (Kd.S_bound hT) (fun k hk => (⟨hk.1, hk.2.2.1⟩ : okT k ∧ k < w.heap.size)))
  have HAP := Aside0.mk hap
  have HL := Aside0.mk hL
  have HH := Aside0.mk h
  have HBW := Aside0.mk hbw
  have HGB := Aside0.mk hgb
  have HTS := Aside0.mk hts
  have hr1 : ¬ ((r.length : Int) + 2 < 2) := by omega
  have hr2 : (0 : Int) < (r.length : Int) + 2 := by omega
  have hr3 : (1 : Int) < (r.length : Int) + 2 := by omega
  clear hbk hP hT hap hL h hbw hgb hts
  go_enter Tryd.func49, Tryd.ntmps49
  go_wp2_with (go_at_call 61; refine (read_yes s _ _ _ hs HL.out HH.out).mono ?_; rintro e w1 ⟨v, rfl, hr, hb⟩; obtain ⟨gn, cn, rfl, hgn, hcn, hr'⟩ := R_two hr; have HR := Aside0.mk hr'; have HB := Aside0.mk hb; clear hr hr' hb; have x1 : w1.cell? ⟨gn, 1, none⟩ = some (.int .i64 1) := num_cell HR.out 1 1 rfl; have x0 : w1.cell? ⟨g, 0, none⟩ = some (.slice PA 0 PC) := (blk_cell (blk_below BK.out HB.out) 0).trans rfl)
  clear x0 x1
  have n0_ := Aside0.mk (blk_drew (blk_below BK.out HB.out))
  have n1_ := Aside0.mk (Kd.R_drew HR.out)
  have n2_ := Aside0.mk (Kd.S_drew (Kd.S_below HP.out HB.out))
  have n3_ := Aside0.mk (Kd.S_drew (Kd.S_below HT.out HB.out))
  have n4_ := Aside0.mk (below_drew1 HB.out)
  obtain ⟨A2, c2, hcut, hA2⟩ := slice_two (some ⟨gn, 0, none⟩) r.length cn hcn
  refine start_ (n := 20) (S := fun w' => w'.cell? ⟨g, 1, none⟩ = some (T) ∧ w'.cell? ⟨gn, 0, none⟩ = some (.int .i64 a) ∧ w'.cell? ⟨gn, 1, none⟩ = some (.int .i64 1)) (ds := [19]) #[false, false, false, false, false, false, false, false, false, false, false, false, false, false, false, false, false, false, false, false] (by kernel_rfl) rfl rfl ⟨(blk_cell n0_.out 1).trans rfl, num_cell n1_.out 0 a rfl, num_cell n1_.out 1 1 rfl⟩ (fun hHeld => ?_)
  refine with_tabW a7tab a7bits (fun HT_ HW_ => ?_)
  generalize w1.drew = w2 at n0_ n1_ n2_ n3_ n4_ hHeld ⊢
  clear BK HR HP HT HB
  have BK := n0_
  have HR := n1_
  have HP := n2_
  have HT := n3_
  have HB := n4_
  clear n0_ n1_ n2_ n3_ n4_
  have HQ : Aside0 ((Kd.int .i64).Q 3 w2 base (fun k => w.heap.size ≤ k ∧ k < w2.heap.size) (.slice A2 r.length c2) r) := ⟨by
    have q := Kd.Q_drop (Kd.Q_of_R (Kd.R_mono (Kd.R_bound HR.out) (fun k hk => (⟨hk.2.1, hk.2.2.1⟩ : w.heap.size ≤ k ∧ k < w2.heap.size)))) (k := 2) (by simp)
    rw [hA2.out.1, hA2.out.2]
    exact Kd.Q_lower q HBW.out⟩
  refine pure_ (i := 0) (N := some 44) (v := ?_) (a' := ?_) #[true, false, false, false, false, false, false, false, false, false, false, false, false, false, false, false, false, false, false, false] rfl rfl (any_of HT_.out (by kernel_rfl)) (fun _ _ _ h => h) (Or.inl ⟨by rfl, ?_⟩) ?_ ?_
  rotate_left
  · intro w'
    go_simp
    with_reducible rfl
  rotate_left
  · simp only [Act.put, List.setIfInBounds_toArray, List.set_cons_zero, List.set_cons_succ, i64_w, i32_w]
    rfl
  refine pure_ (i := 1) (N := some 45) (v := ?_) (a' := ?_) #[true, true, false, false, false, false, false, false, false, false, false, false, false, false, false, false, false, false, false, false] rfl rfl (any_of HT_.out (by kernel_rfl)) (fun _ _ _ h => h) (Or.inl ⟨by rfl, ?_⟩) ?_ ?_
  rotate_left
  · intro w'
    go_simp
    with_reducible rfl
  rotate_left
  · simp only [Act.put, List.setIfInBounds_toArray, List.set_cons_zero, List.set_cons_succ, i64_w, i32_w]
    rfl
  refine pure_ (i := 2) (N := some 46) (v := ?_) (a' := ?_) #[true, true, true, false, false, false, false, false, false, false, false, false, false, false, false, false, false, false, false, false] rfl rfl (any_of HT_.out (by kernel_rfl)) (fun _ _ _ h => h) (Or.inl ⟨by rfl, ?_⟩) ?_ ?_
  rotate_left
  · intro w'
    go_simp
    with_reducible rfl
  rotate_left
  · simp only [Act.put, List.setIfInBounds_toArray, List.set_cons_zero, List.set_cons_succ, i64_w, i32_w]
    rfl
  refine pure_ (i := 3) (N := some 47) (v := ?_) (a' := ?_) #[true, true, true, true, false, false, false, false, false, false, false, false, false, false, false, false, false, false, false, false] rfl rfl (any_of HT_.out (by kernel_rfl)) (fun _ _ _ h => h) (Or.inl ⟨by rfl, ?_⟩) ?_ ?_
  rotate_left
  · intro w'
    go_simp
    with_reducible rfl
  rotate_left
  · simp only [Act.put, List.setIfInBounds_toArray, List.set_cons_zero, List.set_cons_succ, i64_w, i32_w]
    rfl
  refine pure_ (i := 5) (N := some 49) (v := ?_) (a' := ?_) #[true, true, true, true, false, true, false, false, false, false, false, false, false, false, false, false, false, false, false, false] rfl rfl (any_of HT_.out (by kernel_rfl)) (fun _ _ _ h => h) (Or.inl ⟨by rfl, ?_⟩) ?_ ?_
  rotate_left
  · intro w'
    go_simp
    with_reducible rfl
  rotate_left
  · simp only [Act.put, List.setIfInBounds_toArray, List.set_cons_zero, List.set_cons_succ, i64_w, i32_w]
    rfl
  refine pure_ (i := 6) (N := some 50) (v := ?_) (a' := ?_) #[true, true, true, true, false, true, true, false, false, false, false, false, false, false, false, false, false, false, false, false] rfl rfl (any_of HT_.out (by kernel_rfl)) (fun _ _ _ h => h) (Or.inl ⟨by rfl, ?_⟩) ?_ ?_
  rotate_left
  · intro w'
    go_simp
    with_reducible rfl
  rotate_left
  · simp only [Act.put, List.setIfInBounds_toArray, List.set_cons_zero, List.set_cons_succ, i64_w, i32_w]
    rfl
  refine pure_ (i := 8) (N := some 52) (v := ?_) (a' := ?_) #[true, true, true, true, false, true, true, false, true, false, false, false, false, false, false, false, false, false, false, false] rfl rfl (any_of HT_.out (by kernel_rfl)) (fun _ _ _ h => h) (Or.inl ⟨by rfl, ?_⟩) ?_ ?_
  rotate_left
  · intro w'
    go_simp
    with_reducible rfl
  rotate_left
  · simp only [Act.put, List.setIfInBounds_toArray, List.set_cons_zero, List.set_cons_succ, i64_w, i32_w]
    rfl
  refine pure_ (i := 9) (N := some 53) (v := ?_) (a' := ?_) #[true, true, true, true, false, true, true, false, true, true, false, false, false, false, false, false, false, false, false, false] rfl rfl (any_of HT_.out (by kernel_rfl)) (fun _ _ _ h => h) (Or.inl ⟨by rfl, ?_⟩) ?_ ?_
  rotate_left
  · intro w'
    go_simp
    with_reducible rfl
  rotate_left
  · simp only [Act.put, List.setIfInBounds_toArray, List.set_cons_zero, List.set_cons_succ, i64_w, i32_w]
    rfl
  refine pure_ (i := 12) (N := some 56) (v := ?_) (a' := ?_) #[true, true, true, true, false, true, true, false, true, true, false, false, true, false, false, false, false, false, false, false] rfl rfl (any_of HT_.out (by kernel_rfl)) (fun _ _ _ h => h) (Or.inl ⟨by rfl, ?_⟩) ?_ ?_
  rotate_left
  · intro w'
    go_simp
    with_reducible rfl
  rotate_left
  · simp only [Act.put, List.setIfInBounds_toArray, List.set_cons_zero, List.set_cons_succ, i64_w, i32_w]
    rfl
  refine pure_ (i := 13) (N := some 57) (v := ?_) (a' := ?_) #[true, true, true, true, false, true, true, false, true, true, false, false, true, true, false, false, false, false, false, false] rfl rfl (any_of HT_.out (by kernel_rfl)) (fun _ _ _ h => h) (Or.inl ⟨by rfl, ?_⟩) ?_ ?_
  rotate_left
  · intro w'
    go_simp
    with_reducible rfl
  rotate_left
  · simp only [Act.put, List.setIfInBounds_toArray, List.set_cons_zero, List.set_cons_succ, i64_w, i32_w]
    rfl
  refine take_ (i := 4) (N := some 48) (v := ?_) (a' := ?_) #[true, true, true, true, true, true, true, false, true, true, false, false, true, true, false, false, false, false, false, false] rfl rfl (take_ofW HT_.out HW_.out (by kernel_rfl)) (fun _ _ _ h => h) (Or.inl ⟨by rfl, ?_⟩) hHeld ?_ ?_
  rotate_left
  · rintro w' ⟨s0, s1, s2⟩
    go_simp
    with_reducible rfl
  rotate_left
  · simp only [Act.put, List.setIfInBounds_toArray, List.set_cons_zero, List.set_cons_succ, i64_w, i32_w]
    rfl
  refine take_ (i := 7) (N := some 51) (v := ?_) (a' := ?_) #[true, true, true, true, true, true, true, true, true, true, false, false, true, true, false, false, false, false, false, false] rfl rfl (take_ofW HT_.out HW_.out (by kernel_rfl)) (fun _ _ _ h => h) (Or.inl ⟨by rfl, ?_⟩) hHeld ?_ ?_
  rotate_left
  · rintro w' ⟨s0, s1, s2⟩
    go_simp
    with_reducible rfl
  rotate_left
  · simp only [Act.put, List.setIfInBounds_toArray, List.set_cons_zero, List.set_cons_succ, i64_w, i32_w]
    rfl
  refine take_ (i := 10) (N := some 54) (v := ?_) (a' := ?_) #[true, true, true, true, true, true, true, true, true, true, true, false, true, true, false, false, false, false, false, false] rfl rfl (take_ofW HT_.out HW_.out (by kernel_rfl)) (fun _ _ _ h => h) (Or.inl ⟨by rfl, ?_⟩) hHeld ?_ ?_
  rotate_left
  · rintro w' ⟨s0, s1, s2⟩
    go_simp
    with_reducible rfl
  rotate_left
  · simp only [Act.put, List.setIfInBounds_toArray, List.set_cons_zero, List.set_cons_succ, i64_w, i32_w]
    rfl
  refine pure_ (i := 11) (N := some 55) (v := ?_) (a' := ?_) #[true, true, true, true, true, true, true, true, true, true, true, true, true, true, false, false, false, false, false, false] rfl rfl (any_of HT_.out (by kernel_rfl)) (fun _ _ _ h => h) (Or.inl ⟨by rfl, ?_⟩) ?_ ?_
  rotate_left
  · intro w'
    go_simp
    with_reducible rfl
  rotate_left
  · simp only [Act.put, List.setIfInBounds_toArray, List.set_cons_zero, List.set_cons_succ, i64_w, i32_w]
    rfl
  refine pure_ (i := 14) (N := some 58) (v := ?_) (a' := ?_) #[true, true, true, true, true, true, true, true, true, true, true, true, true, true, true, false, false, false, false, false] rfl rfl (any_of HT_.out (by kernel_rfl)) (fun _ _ _ h => h) (Or.inl ⟨by rfl, ?_⟩) ?_ ?_
  rotate_left
  · intro w'
    go_simp
    with_reducible rfl
  rotate_left
  · simp only [Act.put, List.setIfInBounds_toArray, List.set_cons_zero, List.set_cons_succ, i64_w, i32_w]
    rfl
  refine one_ (i := 15) (N := some 59) #[true, true, true, true, true, true, true, true, true, true, true, true, true, true, true, true, false, false, false, false] rfl rfl (one_of HT_.out (by kernel_rfl)) (by decide) (fun K hK => ?_)
  refine event_step (v := .slice (some ⟨w2.heap.size, 0, none⟩) 1 1) (w1 := w2.alloc (.cells #[.int .i64 a, .slice A2 r.length c2, .bool true] 54)) (by rfl) (by first | (go_simp; done) | (go_simp; rfl)) ?_
  refine hK.out _ _ ⟨pw_cell_below (below_alloc (Below.refl _ w2) (.cells #[.int .i64 a, .slice A2 r.length c2, .bool true] 54)) ((blk_cell BK.out 1).trans rfl), pw_cell_below (below_alloc (Below.refl _ w2) (.cells #[.int .i64 a, .slice A2 r.length c2, .bool true] 54)) (num_cell HR.out 0 a rfl), pw_cell_below (below_alloc (Below.refl _ w2) (.cells #[.int .i64 a, .slice A2 r.length c2, .bool true] 54)) (num_cell HR.out 1 1 rfl)⟩ (fun hHeld => ?_)
  clear hK K
  refine norm_ (a' := ?_) ?_ ?_
  rotate_left
  · show Act.put _ (some 59) _ = _
    simp only [Act.put, List.setIfInBounds_toArray, List.set_cons_zero, List.set_cons_succ, i64_w, i32_w]
    rfl
  refine one_ (i := 16) (N := some 60) #[true, true, true, true, true, true, true, true, true, true, true, true, true, true, true, true, true, false, false, false] rfl rfl (one_of HT_.out (by kernel_rfl)) (by decide) (fun K hK => ?_)
  refine Kd.S_append_step k54q (w0 := w) base (by rfl) (.tmp 48) (.tmp 59) 34 54 (.agg #[.int .i64 0, .slice none 0 0, .bool false]) 40 (by rfl) Tryd.underlying34 info54 (by rfl) (by decide) (by omega) T ts ⟨a, r, true⟩ [.int .i64 a, .slice A2 r.length c2, .bool true] (fun k => (okT k ∧ k < w.heap.size) ∨ w.heap.size ≤ k) (fun k => w.heap.size ≤ k ∧ k < w2.heap.size) (by rfl) (by rfl) (k54q_mkM _ _ _ ⟨a, r, true⟩ HQ.out) ?aK (fun k hk => Or.inr (Nat.le_trans HB.out.size hk)) (Kd.S_mono HT.out (fun k hk => ⟨Or.inl hk, fun h => Nat.lt_irrefl _ (Nat.lt_of_lt_of_le hk.2 h.1)⟩)) ?aB ?aS ?aL ?_
  case aK => exact fun k hk => ⟨Or.inr hk.1, fun he => Nat.lt_irrefl _ (Nat.lt_of_lt_of_le ((Kd.S_R HT.out).1 k he.symm).2 hk.1)⟩
  case aB => exact HB.out.mono HBW.out
  case aS => exact Nat.le_trans HBW.out HB.out.size
  case aL => have := HTS.out; omega
  intro T1 w3 hT1 hb1 hg1 hat1
  obtain ⟨TA, TN, TC, rfl⟩ : ∃ TA TN TC, T1 = .slice TA TN TC := by
    obtain ⟨A, c, e⟩ := Kd.S_slice hT1
    exact ⟨A, _, c, e⟩
  have n0_ := Aside0.mk (blk_grown BK.out hg1 (Kd.S_ne HT.out BK.out (by decide)))
  have n1_ := Aside0.mk (Kd.R_over' HR.out (Kd.S_typed HT.out) ne3t hg1)
  have n3_ := Aside0.mk (Kd.S_over' HP.out (Kd.S_typed HT.out) ne57t hg1)
  have HT1 := Aside0.mk hT1
  have HB1 := Aside0.mk hb1
  clear hT1 hb1 hg1 hat1 BK HR HP HT HQ
  have BK := n0_
  have HR := n1_
  have HP := n3_
  clear n0_ n1_ n3_
  refine hK.out _ _ ⟨(blk_cell BK.out 1).trans rfl, num_cell HR.out 0 a rfl, num_cell HR.out 1 1 rfl⟩ (fun hHeld => ?_)
  clear hK K
  refine norm_ (a' := ?_) ?_ ?_
  rotate_left
  · show Act.put _ (some 60) _ = _
    simp only [Act.put, List.setIfInBounds_toArray, List.set_cons_zero, List.set_cons_succ, i64_w, i32_w]
    rfl
  refine pure_ (i := 17) (N := some 61) (v := ?_) (a' := ?_) #[true, true, true, true, true, true, true, true, true, true, true, true, true, true, true, true, true, true, false, false] rfl rfl (any_of HT_.out (by kernel_rfl)) (fun _ _ _ h => h) (Or.inl ⟨by rfl, ?_⟩) ?_ ?_
  rotate_left
  · intro w'
    go_simp
    with_reducible rfl
  rotate_left
  · simp only [Act.put, List.setIfInBounds_toArray, List.set_cons_zero, List.set_cons_succ, i64_w, i32_w]
    rfl
  refine pure_ (i := 18) (N := some 62) (v := ?_) (a' := ?_) #[true, true, true, true, true, true, true, true, true, true, true, true, true, true, true, true, true, true, true, false] rfl rfl (any_of HT_.out (by kernel_rfl)) (fun _ _ _ h => h) (Or.inl ⟨by rfl, ?_⟩) ?_ ?_
  rotate_left
  · intro w'
    go_simp
    with_reducible rfl
  rotate_left
  · simp only [Act.put, List.setIfInBounds_toArray, List.set_cons_zero, List.set_cons_succ, i64_w, i32_w]
    rfl
  have z0 := blk_frozen BK.out 1
  have z1 : w3.cell? ⟨g, 1, none⟩ = some T := (blk_cell BK.out 1).trans rfl
  refine last_ (i := 19) (N := none) #[true, true, true, true, true, true, true, true, true, true, true, true, true, true, true, true, true, true, true, true] rfl rfl (one_of HT_.out (by kernel_rfl)) (by decide) (fun K hK => ?_)
  refine store_step (w1 := w3.setCell ⟨g, 1, none⟩ (.slice TA TN TC)) (by rfl) rfl (by first | (go_simp; done) | (go_simp; rfl)) ?_
  refine hK.out _ _ ?_
  clear hK K
  refine done_ (done_of HT_.out (by kernel_rfl)) ?_
  have n0_ := Aside0.mk (blk_put (cs := #[.slice PA 0 PC, T]) (cs' := #[.slice PA 0 PC, (.slice TA TN TC)]) BK.out 1 (.slice TA TN TC) rfl)
  have n1_ := Aside0.mk (Kd.S_set HT1.out BK.out ne54u 1 (.slice TA TN TC))
  have n2_ := Aside0.mk (Kd.S_set HP.out BK.out ne57u 1 (.slice TA TN TC))
  have n3_ : Aside0 (Fr base g w (w3.setCell ⟨g, 1, none⟩ (.slice TA TN TC))) := ⟨fr_set HB1.out 1 (.slice TA TN TC)⟩
  generalize w3.setCell ⟨g, 1, none⟩ (.slice TA TN TC) = w4 at n0_ n1_ n2_ n3_ ⊢
  go_wp2
  go_returns
  exact ⟨rfl, ⟨_, _, _, _, n0_.out, n2_.out, n1_.out, fun k h1 h2 => h2.elim (fun h => HAP.out k h1.1 h.1) (fun h => Nat.lt_irrefl _ (Nat.lt_of_lt_of_le h1.2.2.1 h))⟩, n3_.out⟩
end Go.Proofs.YtfkfgjmhcfagkaaDoor.Given
end
section
namespace Go.Proofs.YtfkfgjmhcfagkaaDoor.Given
open Go.RowKit Go.Proofs.YtfkfgjmhcfagkaaDoorW.PrintWords Go.Proofs.YtfkfgjmhcfagkaaDoorW.PrintLast Go.Proofs.YtfkfgjmhcfagkaaDoorW.PrintMore Go.Proofs.YtfkfgjmhcfagkaaDoor.Print
set_option linter.unusedVariables false
set_option linter.unusedSimpArgs false
theorem add_none (p : Value) (s : ByteArray) (w : World) (hL : LW w) (hs : s.size < 4294967281) (h : readOf s = none) :
    Calls Tryd.prog 49 #[p, .string s] w fun e w' => e = .returned (.bool false) ∧ Below w.heap.size w w' := by
  have HL := Aside0.mk hL
  have HH := Aside0.mk h
  clear hL h
  go_enter Tryd.func49, Tryd.ntmps49
  go_wp2_with (go_at_call 61; refine (read_no s _ hs HL.out HH.out).mono ?_; rintro e w1 ⟨rfl, hb⟩; have HB := Aside0.mk hb; clear hb)
  go_returns
  exact ⟨rfl, HB.out⟩
theorem add_type_short (p : Value) (s : ByteArray) (n : List Int) (w : World) (hL : LW w) (hs : s.size < 4294967281) (h : readOf s = some (typeWord, n)) (hn : n.length < 2) :
    Calls Tryd.prog 49 #[p, .string s] w fun e w' => e = .returned (.bool false) ∧ Below w.heap.size w w' := by
  rw [show typeWord = ⟨#[116, 121, 112, 101]⟩ from rfl] at h
  have hr1 : (n.length : Int) < 2 := by omega
  have HL := Aside0.mk hL
  have HH := Aside0.mk h
  clear hL h
  go_enter Tryd.func49, Tryd.ntmps49
  go_wp2_with (go_at_call 61; refine (read_yes s _ _ _ hs HL.out HH.out).mono ?_; rintro e w1 ⟨v, rfl, hr, hb⟩; obtain ⟨A, c, rfl⟩ := Kd.R_slice hr; have HB := Aside0.mk hb; clear hr hb)
  go_returns
  exact ⟨rfl, HB.out⟩
theorem add_type_flag (p : Value) (s : ByteArray) (a b : Int) (r : List Int) (w : World) (hL : LW w) (hs : s.size < 4294967281) (h : readOf s = some (typeWord, a :: b :: r)) (h0 : b ≠ 0) (h1 : b ≠ 1) :
    Calls Tryd.prog 49 #[p, .string s] w fun e w' => e = .returned (.bool false) ∧ Below w.heap.size w w' := by
  rw [show typeWord = ⟨#[116, 121, 112, 101]⟩ from rfl] at h
  have hb0 : (b != 0) = true := by simpa using h0
  have hb1 : (b != 1) = true := by simpa using h1
  have hr1 : ¬ ((r.length : Int) + 2 < 2) := by omega
  have hr3 : (1 : Int) < (r.length : Int) + 2 := by omega
  have HL := Aside0.mk hL
  have HH := Aside0.mk h
  clear hL h h0 h1
  go_enter Tryd.func49, Tryd.ntmps49
  go_wp2_with (go_at_call 61; refine (read_yes s _ _ _ hs HL.out HH.out).mono ?_; rintro e w1 ⟨v, rfl, hr, hb⟩; obtain ⟨gn, cn, rfl, hgn, hcn, hr'⟩ := R_two hr; have HB := Aside0.mk hb; have x1 : w1.cell? ⟨gn, 1, none⟩ = some (.int .i64 b) := num_cell hr' 1 b rfl; clear hr hr' hb)
  go_returns
  exact ⟨rfl, HB.out⟩
theorem add_type_late (g : Nat) (T : Value) (A : Option Addr) (m c : Nat) (s : ByteArray) (a b : Int) (r : List Int) (w : World) (hL : LW w) (hs : s.size < 4294967281) (h : readOf s = some (typeWord, a :: b :: r)) (hb' : b = 0 ∨ b = 1) (hg : w.heap[g]? = some (.cells #[.slice A m c, T] 36 (0, 0))) (hm : 0 < m) :
    Calls Tryd.prog 49 #[.pointer (some ⟨g, 0, none⟩), .string s] w fun e w' => e = .returned (.bool false) ∧ Below w.heap.size w w' := by
  rw [show typeWord = ⟨#[116, 121, 112, 101]⟩ from rfl] at h
  have hr1 : ¬ ((r.length : Int) + 2 < 2) := by omega
  have hr3 : (1 : Int) < (r.length : Int) + 2 := by omega
  have hm1 : (0 : Int) < (m : Int) := by omega
  have HL := Aside0.mk hL
  have HH := Aside0.mk h
  have BK := Aside0.mk hg
  clear hL h hg
  rcases hb' with rfl | rfl
  all_goals go_enter Tryd.func49, Tryd.ntmps49
  · go_wp2_with (go_at_call 61; refine (read_yes s _ _ _ hs HL.out HH.out).mono ?_; rintro e w1 ⟨v, rfl, hr, hb⟩; obtain ⟨gn, cn, rfl, hgn, hcn, hr'⟩ := R_two hr; have HB := Aside0.mk hb; have x1 : w1.cell? ⟨gn, 1, none⟩ = some (.int .i64 0) := num_cell hr' 1 0 rfl; have x0 : w1.cell? ⟨g, 0, none⟩ = some (.slice A m c) := (blk_cell (blk_below BK.out hb) 0).trans rfl; clear hr hr' hb)
    go_returns
    exact ⟨rfl, HB.out⟩
  · go_wp2_with (go_at_call 61; refine (read_yes s _ _ _ hs HL.out HH.out).mono ?_; rintro e w1 ⟨v, rfl, hr, hb⟩; obtain ⟨gn, cn, rfl, hgn, hcn, hr'⟩ := R_two hr; have HB := Aside0.mk hb; have x1 : w1.cell? ⟨gn, 1, none⟩ = some (.int .i64 1) := num_cell hr' 1 1 rfl; have x0 : w1.cell? ⟨g, 0, none⟩ = some (.slice A m c) := (blk_cell (blk_below BK.out hb) 0).trans rfl; clear hr hr' hb)
    go_returns
    exact ⟨rfl, HB.out⟩
theorem add_prog_flag (p : Value) (s : ByteArray) (a b c d : Int) (w : World) (hL : LW w) (hs : s.size < 4294967281) (h : readOf s = some (progWord, [a, b, c, d])) (h0 : d ≠ 0) (h1 : d ≠ 1) :
    Calls Tryd.prog 49 #[p, .string s] w fun e w' => e = .returned (.bool false) ∧ Below w.heap.size w w' := by
  rw [show progWord = ⟨#[112, 114, 111, 103]⟩ from rfl] at h
  have hb0 : (d != 0) = true := by simpa using h0
  have hb1 : (d != 1) = true := by simpa using h1
  have HL := Aside0.mk hL
  have HH := Aside0.mk h
  clear hL h h0 h1
  go_enter Tryd.func49, Tryd.ntmps49
  go_wp2_with (go_at_call 61; refine (read_yes s _ _ _ hs HL.out HH.out).mono ?_; rintro e w1 ⟨v, rfl, hr, hb⟩; obtain ⟨gn, cn, rfl, hgn, hgn2, hty⟩ := Kd.R_form hr (by simp); have HB := Aside0.mk hb; have x3 : w1.cell? ⟨gn, 3, none⟩ = some (.int .i64 d) := num_cell hr 3 d rfl; clear hr hb hgn hgn2 hty)
  go_returns
  exact ⟨rfl, HB.out⟩
end Go.Proofs.YtfkfgjmhcfagkaaDoor.Given
end
section
namespace Go.Proofs.YtfkfgjmhcfagkaaDoor.Given
open Go.RowKit Go.Proofs.YtfkfgjmhcfagkaaDoorW.PrintWords Go.Proofs.YtfkfgjmhcfagkaaDoorW.PrintLast Go.Proofs.YtfkfgjmhcfagkaaDoorW.PrintMore Go.Proofs.YtfkfgjmhcfagkaaDoor.Print
set_option linter.unusedVariables false
set_option linter.unusedSimpArgs false
theorem ne54r : ∀ q, q ∈ 54 :: k54q.E → q ≠ 28 := by decide
theorem hole_at {W : World} {base gp n cap m : Nat} {ok oki : Nat → Prop} {xs : List S57} {c : List Value} (h : Kd.H k57q 57 W base ok (.slice (some ⟨gp, 0, none⟩) n cap) xs (m : Int) oki c) (hm : m < n) :
    (∀ j u, c[j]? = some u → W.cell? ⟨gp, m * 5 + j, none⟩ = some u) ∧ (∀ j, W.frozen? ⟨gp, m * 5 + j, none⟩ = false) ∧ ∃ cur, W.heap[gp]? = some (.cells cur 57 (0, 0)) := by
  obtain ⟨rows, _, hraw, _, _, hcc, _⟩ := Kd.H_raw h (by omega) (by omega)
  obtain ⟨_, _, _, _, hfr⟩ := Kd.R_elem hraw [] (m : Int) (by omega) (by omega)
  refine ⟨fun j u hu => ?_, fun j => ?_, ?_⟩
  · have := hcc j u hu
    rwa [Int.toNat_natCast] at this
  · have := hfr j
    rwa [Int.toNat_natCast] at this
  · exact Kd.R_typed hraw gp (by simp [Value.ownBlock])
theorem last_open {w : World} {base : Nat} {ok : Nat → Prop} {P : Value} {q : List S57} {p : S57} (h : Kd.S k57q 57 w base ok P (q ++ [p])) :
    ∃ gp cap v4 oki, P = .slice (some ⟨gp, 0, none⟩) (q.length + 1) cap ∧ base ≤ gp ∧ gp < w.heap.size ∧ Kd.S k28q 28 w base oki v4 p.f4 ∧ (∀ k, oki k → k < w.heap.size) ∧ (∀ k, oki k → ok k ∧ k ≠ gp) ∧
      Kd.H k57q 57 w base ok (.slice (some ⟨gp, 0, none⟩) (q.length + 1) cap) (q ++ [p]) (q.length : Int) oki [.int .i64 p.f0, .int .i64 p.f1, .int .i64 p.f2, .bool p.f3, v4] := by
  obtain ⟨gp, cap, rfl, hb, hlt, _⟩ := Kd.S_form h (by simp)
  have hlen : (q ++ [p]).length = q.length + 1 := by simp
  rw [hlen] at h
  obtain ⟨oki, c, hcl, hM, hcc, hfr, hoki, hH⟩ := Kd.S_elem h z57 (q.length : Int) (by omega) (by omega)
  have he : (q ++ [p]).getD ((q.length : Int)).toNat z57 = p := by rw [Int.toNat_natCast]; simp
  rw [he] at hM
  obtain ⟨v4, rfl, hS⟩ := k57q_openM hM
  obtain ⟨ho, f, hR⟩ := hH
  exact ⟨gp, cap, v4, fun k => oki k ∧ k < w.heap.size, by rw [hlen], hb, hlt, Kd.S_mono (Kd.S_bound hS) (fun k hk => ⟨hk.1, hk.2.2.1⟩), fun k hk => hk.2, fun k hk => hoki k hk.1, fun k hk => ho k hk.1, f, Kd.R_mono hR (fun k hk => ⟨hk.1, fun h => hk.2 h.1⟩)⟩
theorem Q_setRow {α : Type} {d : Kd α} {e base g t : Nat} {ok : Nat → Prop} {w : World} {v : Value} {xs : List α} {cs cs' : Array Value} (h : d.Q e w base ok v xs) (hb : w.heap[g]? = some (.cells cs t (0, 0))) (ht : ∀ q, q ∈ e :: d.E → q ≠ t) : d.Q e (w.setRow g cs') base ok v xs :=
  Kd.Q_mono (Kd.Q_step (Kd.Q_types h hb ht) (fun k hk _ => setRow_other _ _ _ _ hk.2)) (fun _ hk => hk.1)
theorem setRow_size (w : World) (g : Nat) (cs : Array Value) : (w.setRow g cs).heap.size = w.heap.size := by simp [World.setRow]
def a18T : Bool × List (List Nat × List Nat) := (true, [([], []), ([], []), ([1], [1]), ([2], [2]), ([3], [3]), ([], []), ([5], [5]), ([4, 6], [4, 6]), ([0, 0, 1, 2, 3, 4, 5, 6, 7], [0]), ([8, 0, 1, 2, 3, 4, 5, 6, 7], [8]), ([9, 7, 7, 0, 1, 2, 3, 4, 5, 6, 7], [7, 9])])
def a18B : List Nat := [0, 0, 2, 6, 14, 0, 32, 126, 255, 511, 1023]
theorem a18tab : rtab .any (opsOf Tryd.f49 18) = a18T := by kernel_rfl
theorem a18bits : waitsOk a18T.2 a18B = true := by kernel_rfl
set_option maxRecDepth 100000 in
set_option maxHeartbeats 8000000 in
theorem add_ins1 (base g : Nat) (q : List S57) (p : S57) (ts : List S54) (s wd : ByteArray) (n : List Int) (i : S28) (w : World) (hL : LW w) (hs : s.size < 4294967281) (h : readOf s = some (wd, n)) (hn : oneOf wd n = some i) (ht : (wd.toList == [116, 121, 112, 101]) = false) (hp : (wd.toList == [112, 114, 111, 103]) = false) (hU : UnitAt w base g (q ++ [p]) ts) (hgb : g < base) (hbw : base ≤ w.heap.size) (hq : q.length + 1 ≤ 4294967296) (hc : p.f4.length + 1 ≤ 4294967296) :
    Calls Tryd.prog 49 #[.pointer (some ⟨g, 0, none⟩), .string s] w fun e w' => e = .returned (.bool true) ∧ UnitAt w' base g (q ++ [⟨p.f0, p.f1, p.f2, p.f3, p.f4 ++ [i]⟩]) ts ∧ Fr base g w w' := by
  have hu57 := Tryd.underlying57
  have hu28 := Tryd.underlying28
  obtain ⟨P, T, okP, okT, hbk, hP, hT, hap⟩ := hU
  obtain ⟨gp, cap, v4, oki, rfl, hgp1, hgp2, hS4, hoki1, hoki2, hH⟩ := last_open (Kd.S_mono (Kd.S_bound hP) (fun k hk => (Or.inl ⟨hk.1, hk.2.2.1⟩ : (okP k ∧ k < w.heap.size) ∨ w.heap.size ≤ k)))
  obtain ⟨A4, C4, rfl⟩ := Kd.S_slice hS4
  have BK := Aside0.mk hbk
  have HS4 := Aside0.mk hS4
  have HHo := Aside0.mk (Kd.H_widen hH)
  have HT := Aside0.mk (Kd.S_mono (Kd.S_bound hT) (fun k hk => (⟨hk.1, hk.2.2.1⟩ : okT k ∧ k < w.heap.size)))
  have HAP := Aside0.mk hap
  have HL := Aside0.mk hL
  have HH := Aside0.mk h
  have HN := Aside0.mk hn
  have HBW := Aside0.mk hbw
  have HGB := Aside0.mk hgb
  have HGP := Aside0.mk hgp1
  have HGL := Aside0.mk hgp2
  have HO1 := Aside0.mk hoki1
  have HO2 := Aside0.mk hoki2
  have HQQ := Aside0.mk hq
  have HCC := Aside0.mk hc
  have hw0 : wrap64 (q.length : Int) = (q.length : Int) := by simp only [wrap64]; omega
  have hw1 : (0 : Int) ≤ (q.length : Int) ∧ (q.length : Int) < (q.length : Int) + 1 := by omega
  have hw2 : ((q.length : Int) + 1 == 0) = false := by simp; omega
  clear hbk hP hT hap hL h hn hbw hgb hgp1 hgp2 hoki1 hoki2 hS4 hH hq hc
  go_enter Tryd.func49, Tryd.ntmps49
  go_wp2_with (first
    | (go_at_call 61; refine (read_yes s _ _ _ hs HL.out HH.out).mono ?_; rintro e w1 ⟨v, rfl, hr, hb⟩; obtain ⟨An, cn, rfl⟩ := Kd.R_slice hr; have HQ0 := Aside0.mk (Kd.Q_lower (Kd.Q_of_R (Kd.R_mono (Kd.R_bound hr) (fun k hk => (⟨hk.2.1, hk.2.2.1⟩ : w.heap.size ≤ k ∧ k < w1.heap.size)))) HBW.out); have HB := Aside0.mk hb; clear hr hb)
    | (go_at_call 62; refine (one_any _ HQ0.out).mono ?_; rw [HN.out]; rintro e w2 ⟨vi, rfl, hqi, hb⟩; obtain ⟨Ai, ci, rfl, _⟩ := Kd.Q_slice hqi; have HQ := Aside0.mk hqi; have HW1 := Aside0.mk hb.size; have n3_ := Aside0.mk (below_then HB.out HB.out.size hb); clear HB HQ0 hqi hb; have HB := n3_; clear n3_)
    | ((with_reducible refine gate_dst (N := 8) rfl ?_); refine box_event ?hg (N := 8) ?hd (cs := #[.int .i64 0, .int .i64 0, .int .i64 0, .slice none 0 0]) (t := 28) ?hr ?_; (case hd => rfl); (case hg => rfl); (case hr => first | (go_simp; done) | (go_simp; rfl)); intro g8 hg w3 hbox hb; have BK8 := Aside0.mk hbox; have GE8 := Aside0.mk (show w.heap.size ≤ g8 by rw [hg]; exact HB.out.size); have n1_ := Aside0.mk (Kd.Q_below HQ.out hb); have n3_ := Aside0.mk (below_then HB.out HB.out.size hb); have HW3 := Aside0.mk (Nat.le_trans HW1.out hb.size); clear HQ HB; have HQ := n1_; have HB := n3_; clear n1_ n3_ hg hbox hb)
    | (refine wpList_store_row rfl 28 (.tmp 8) (.tmp 108) rfl g8 #[.int .i64 i.f0, .int .i64 i.f1, .int .i64 i.f2, .slice Ai i.f3.length ci] rfl rfl 28 _ BK8.out (by kernel_rfl) rfl (by kernel_rfl) ?_; have n0_ : Aside0 ((w3.setRow g8 #[.int .i64 i.f0, .int .i64 i.f1, .int .i64 i.f2, .slice Ai i.f3.length ci]).heap[g8]? = some (.cells #[.int .i64 i.f0, .int .i64 i.f1, .int .i64 i.f2, .slice Ai i.f3.length ci] 28 (0, 0))) := ⟨setRow_heap _ _ _ _ _ _ BK8.out⟩; have n3_ := Aside0.mk (below_setRow HB.out GE8.out #[.int .i64 i.f0, .int .i64 i.f1, .int .i64 i.f2, .slice Ai i.f3.length ci]); have n1_ := Aside0.mk (Q_setRow HQ.out BK8.out (by decide) (cs' := #[.int .i64 i.f0, .int .i64 i.f1, .int .i64 i.f2, .slice Ai i.f3.length ci])); have n2_ := Aside0.mk (show w1.heap.size ≤ (w3.setRow g8 #[.int .i64 i.f0, .int .i64 i.f1, .int .i64 i.f2, .slice Ai i.f3.length ci]).heap.size by rw [setRow_size]; exact HW3.out); generalize w3.setRow g8 #[.int .i64 i.f0, .int .i64 i.f1, .int .i64 i.f2, .slice Ai i.f3.length ci] = w4 at n0_ n1_ n2_ n3_ ⊢; clear BK8 HQ HB; have BK8 := n0_; have HQ := n1_; have HB := n3_; have HW4 := n2_; clear n0_ n1_ n2_ n3_; have x0 : w4.cell? ⟨g, 0, none⟩ = some (.slice (some ⟨gp, 0, none⟩) (q.length + 1) cap) := (blk_cell (blk_below BK.out HB.out) 0).trans rfl))
  go_region
  have n0_ := Aside0.mk (blk_drew BK8.out)
  have n1_ := Aside0.mk (Kd.Q_drew HQ.out)
  have n2_ := Aside0.mk (show w1.heap.size ≤ w4.drew.heap.size from HW4.out)
  have n3_ := Aside0.mk (below_drew1 HB.out)
  generalize w4.drew = w5 at n0_ n1_ n2_ n3_ ⊢
  clear BK8 HQ HB HW4 HW1 HW3 x0
  have BK8 := n0_
  have HQ := n1_
  have HW5 := n2_
  have HB := n3_
  clear n0_ n1_ n2_ n3_
  go_wp2_with (fail)
  have n0_ := Aside0.mk (blk_drew BK8.out)
  have n1_ := Aside0.mk (Kd.Q_drew HQ.out)
  have n2_ := Aside0.mk (show w1.heap.size ≤ w5.drew.heap.size from HW5.out)
  have n3_ := Aside0.mk (below_drew1 HB.out)
  have n4_ := Aside0.mk (Kd.H_below HHo.out n3_.out)
  refine start_ (n := 11) (S := fun w' => w'.cell? ⟨gp, q.length * 5 + 4, none⟩ = some (.slice A4 p.f4.length C4) ∧ w'.cell? ⟨g8, 0, none⟩ = some (.int .i64 i.f0) ∧ w'.cell? ⟨g8, 1, none⟩ = some (.int .i64 i.f1) ∧ w'.cell? ⟨g8, 2, none⟩ = some (.int .i64 i.f2) ∧ w'.cell? ⟨g8, 3, none⟩ = some (.slice Ai i.f3.length ci)) (ds := [10]) #[false, false, false, false, false, false, false, false, false, false, false] (by kernel_rfl) rfl rfl ⟨(hole_at n4_.out (Nat.lt_succ_self _)).1 4 _ rfl, (blk_cell n0_.out 0).trans rfl, (blk_cell n0_.out 1).trans rfl, (blk_cell n0_.out 2).trans rfl, (blk_cell n0_.out 3).trans rfl⟩ (fun hHeld => ?_)
  refine with_tabW a18tab a18bits (fun HT_ HW_ => ?_)
  generalize w5.drew = w6 at n0_ n1_ n2_ n3_ n4_ hHeld ⊢
  clear BK8 HQ HB HW5
  have BK8 := n0_
  have HQ := n1_
  have HW6 := n2_
  have HB := n3_
  have HHo6 := n4_
  clear n0_ n1_ n2_ n3_ n4_
  have HS6 := Aside0.mk (Kd.S_below HS4.out HB.out)
  have HT6 := Aside0.mk (Kd.S_below HT.out HB.out)
  have BK6 := Aside0.mk (blk_below BK.out HB.out)
  refine pure_ (i := 0) (N := some 131) (v := ?_) (a' := ?_) #[true, false, false, false, false, false, false, false, false, false, false] rfl rfl (any_of HT_.out (by kernel_rfl)) (fun _ _ _ h => h) (Or.inl ⟨by rfl, ?_⟩) ?_ ?_
  rotate_left
  · intro w'
    go_simp
    with_reducible rfl
  rotate_left
  · simp only [Act.put, List.setIfInBounds_toArray, List.set_cons_zero, List.set_cons_succ, i64_w, i32_w]
    rfl
  refine pure_ (i := 1) (N := some 132) (v := ?_) (a' := ?_) #[true, true, false, false, false, false, false, false, false, false, false] rfl rfl (any_of HT_.out (by kernel_rfl)) (fun _ _ _ h => h) (Or.inl ⟨by rfl, ?_⟩) ?_ ?_
  rotate_left
  · intro w'
    go_simp
    with_reducible rfl
  rotate_left
  · simp only [Act.put, List.setIfInBounds_toArray, List.set_cons_zero, List.set_cons_succ, i64_w, i32_w]
    rfl
  refine pure_ (i := 2) (N := some 133) (v := ?_) (a' := ?_) #[true, true, true, false, false, false, false, false, false, false, false] rfl rfl (any_of HT_.out (by kernel_rfl)) (fun _ _ _ h => h) (Or.inl ⟨by rfl, ?_⟩) ?_ ?_
  rotate_left
  · intro w'
    go_simp
    with_reducible rfl
  rotate_left
  · simp only [Act.put, List.setIfInBounds_toArray, List.set_cons_zero, List.set_cons_succ, i64_w, i32_w]
    rfl
  refine pure_ (i := 3) (N := some 134) (v := ?_) (a' := ?_) #[true, true, true, true, false, false, false, false, false, false, false] rfl rfl (any_of HT_.out (by kernel_rfl)) (fun _ _ _ h => h) (Or.inl ⟨by rfl, ?_⟩) ?_ ?_
  rotate_left
  · intro w'
    go_simp
    with_reducible rfl
  rotate_left
  · simp only [Act.put, List.setIfInBounds_toArray, List.set_cons_zero, List.set_cons_succ, i64_w, i32_w]
    rfl
  refine take_ (i := 4) (N := some 135) (v := ?_) (a' := ?_) #[true, true, true, true, true, false, false, false, false, false, false] rfl rfl (take_ofW HT_.out HW_.out (by kernel_rfl)) (fun _ _ _ h => h) (Or.inl ⟨by rfl, ?_⟩) hHeld ?_ ?_
  rotate_left
  · rintro w' ⟨s0, s1, s2, s3, s4⟩
    go_simp
    with_reducible rfl
  rotate_left
  · simp only [Act.put, List.setIfInBounds_toArray, List.set_cons_zero, List.set_cons_succ, i64_w, i32_w]
    rfl
  refine take_ (i := 5) (N := some 136) (v := ?_) (a' := ?_) #[true, true, true, true, true, true, false, false, false, false, false] rfl rfl (take_ofW HT_.out HW_.out (by kernel_rfl)) (fun _ _ _ h => h) (Or.inl ⟨by rfl, ?_⟩) hHeld ?_ ?_
  rotate_left
  · rintro w' ⟨s0, s1, s2, s3, s4⟩
    go_simp
    with_reducible rfl
  rotate_left
  · simp only [Act.put, List.setIfInBounds_toArray, List.set_cons_zero, List.set_cons_succ, i64_w, i32_w]
    rfl
  refine one_ (i := 6) (N := some 137) #[true, true, true, true, true, true, true, false, false, false, false] rfl rfl (one_of HT_.out (by kernel_rfl)) (by decide) (fun K hK => ?_)
  refine event_step (v := .slice (some ⟨w6.heap.size, 0, none⟩) 1 1) (w1 := w6.alloc (.cells #[.int .i64 i.f0, .int .i64 i.f1, .int .i64 i.f2, .slice Ai i.f3.length ci] 28)) (by rfl) (by first | (go_simp; done) | (go_simp; rfl)) ?_
  refine hK.out _ _ ⟨pw_cell_below (below_alloc (Below.refl _ w6) (.cells #[.int .i64 i.f0, .int .i64 i.f1, .int .i64 i.f2, .slice Ai i.f3.length ci] 28)) ((hole_at HHo6.out (Nat.lt_succ_self _)).1 4 _ rfl), pw_cell_below (below_alloc (Below.refl _ w6) (.cells #[.int .i64 i.f0, .int .i64 i.f1, .int .i64 i.f2, .slice Ai i.f3.length ci] 28)) ((blk_cell BK8.out 0).trans rfl), pw_cell_below (below_alloc (Below.refl _ w6) (.cells #[.int .i64 i.f0, .int .i64 i.f1, .int .i64 i.f2, .slice Ai i.f3.length ci] 28)) ((blk_cell BK8.out 1).trans rfl), pw_cell_below (below_alloc (Below.refl _ w6) (.cells #[.int .i64 i.f0, .int .i64 i.f1, .int .i64 i.f2, .slice Ai i.f3.length ci] 28)) ((blk_cell BK8.out 2).trans rfl), pw_cell_below (below_alloc (Below.refl _ w6) (.cells #[.int .i64 i.f0, .int .i64 i.f1, .int .i64 i.f2, .slice Ai i.f3.length ci] 28)) ((blk_cell BK8.out 3).trans rfl)⟩ (fun hHeld => ?_)
  clear hK K
  refine norm_ (a' := ?_) ?_ ?_
  rotate_left
  · show Act.put _ (some 137) _ = _
    simp only [Act.put, List.setIfInBounds_toArray, List.set_cons_zero, List.set_cons_succ, i64_w, i32_w]
    rfl
  refine one_ (i := 7) (N := some 138) #[true, true, true, true, true, true, true, true, false, false, false] rfl rfl (one_of HT_.out (by kernel_rfl)) (by decide) (fun K hK => ?_)
  refine Kd.S_append_step k28q (w0 := w) base (by rfl) (.tmp 135) (.tmp 137) 55 28 (.agg #[.int .i64 0, .int .i64 0, .int .i64 0, .slice none 0 0]) 48 (by rfl) Tryd.underlying55 info28 (by rfl) (by decide) (by omega) (.slice A4 p.f4.length C4) p.f4 i [.int .i64 i.f0, .int .i64 i.f1, .int .i64 i.f2, .slice Ai i.f3.length ci] (fun k => oki k ∨ w.heap.size ≤ k) (fun k => w.heap.size ≤ k ∧ k < w1.heap.size) (by rfl) (by rfl) (k28q_mkM _ _ _ i HQ.out) ?aK (fun k hk => Or.inr (Nat.le_trans HB.out.size hk)) (Kd.S_mono HS6.out (fun k hk => ⟨Or.inl hk, fun h => Nat.lt_irrefl _ (Nat.lt_of_lt_of_le (HO1.out k hk) h.1)⟩)) ?aB ?aS ?aL ?_
  case aK => exact fun k hk => ⟨Or.inr hk.1, fun he => Nat.lt_irrefl _ (Nat.lt_of_lt_of_le (HO1.out k ((Kd.S_R HS6.out).1 k he.symm)) hk.1)⟩
  case aB => exact HB.out.mono HBW.out
  case aS => exact Nat.le_trans HBW.out HB.out.size
  case aL => have := HCC.out; omega
  intro C1 w7 hC1 hb1 hg1 hat1
  obtain ⟨CA, CN, CC, rfl⟩ : ∃ CA CN CC, C1 = .slice CA CN CC := by
    obtain ⟨A, c, e⟩ := Kd.S_slice hC1
    exact ⟨A, _, c, e⟩
  have n0_ := Aside0.mk (blk_grown BK6.out hg1 (Kd.S_ne HS6.out BK6.out (by decide)))
  have n1_ := Aside0.mk (blk_grown BK8.out hg1 (fun he => Nat.lt_irrefl _ (Nat.lt_of_lt_of_le (HO1.out g8 ((Kd.S_R HS6.out).1 g8 he.symm)) GE8.out)))
  have n3_ := Aside0.mk (Kd.S_over' HT6.out (Kd.S_typed HS6.out) ne54r hg1)
  have n4_ := Aside0.mk (Kd.H_grown HHo6.out hg1 (fun k hk => Or.inl ((Kd.S_R HS6.out).1 k hk)))
  have HC1 := Aside0.mk hC1
  have HB1 := Aside0.mk hb1
  have HZ := Aside0.mk (Nat.le_trans HB.out.size hg1.size)
  clear hC1 hb1 hg1 hat1 BK6 BK8 HT6 HHo6 HS6 HQ
  have BK6 := n0_
  have BK8 := n1_
  have HT6 := n3_
  have HHo6 := n4_
  clear n0_ n1_ n3_ n4_
  refine hK.out _ _ ⟨(hole_at HHo6.out (Nat.lt_succ_self _)).1 4 _ rfl, (blk_cell BK8.out 0).trans rfl, (blk_cell BK8.out 1).trans rfl, (blk_cell BK8.out 2).trans rfl, (blk_cell BK8.out 3).trans rfl⟩ (fun hHeld => ?_)
  clear hK K
  refine norm_ (a' := ?_) ?_ ?_
  rotate_left
  · show Act.put _ (some 138) _ = _
    simp only [Act.put, List.setIfInBounds_toArray, List.set_cons_zero, List.set_cons_succ, i64_w, i32_w]
    rfl
  refine pure_ (i := 8) (N := some 139) (v := ?_) (a' := ?_) #[true, true, true, true, true, true, true, true, true, false, false] rfl rfl (any_of HT_.out (by kernel_rfl)) (fun _ _ _ h => h) (Or.inl ⟨by rfl, ?_⟩) ?_ ?_
  rotate_left
  · intro w'
    go_simp
    with_reducible rfl
  rotate_left
  · simp only [Act.put, List.setIfInBounds_toArray, List.set_cons_zero, List.set_cons_succ, i64_w, i32_w]
    rfl
  refine pure_ (i := 9) (N := some 140) (v := ?_) (a' := ?_) #[true, true, true, true, true, true, true, true, true, true, false] rfl rfl (any_of HT_.out (by kernel_rfl)) (fun _ _ _ h => h) (Or.inl ⟨by rfl, ?_⟩) ?_ ?_
  rotate_left
  · intro w'
    go_simp
    with_reducible rfl
  rotate_left
  · simp only [Act.put, List.setIfInBounds_toArray, List.set_cons_zero, List.set_cons_succ, i64_w, i32_w]
    rfl
  have z0 := (hole_at HHo6.out (Nat.lt_succ_self _)).2.1 4
  have z1 := (hole_at HHo6.out (Nat.lt_succ_self _)).1 4 _ rfl
  refine last_ (i := 10) (N := none) #[true, true, true, true, true, true, true, true, true, true, true] rfl rfl (one_of HT_.out (by kernel_rfl)) (by decide) (fun K hK => ?_)
  refine store_step (w1 := w7.setCell ⟨gp, q.length * 5 + 4, none⟩ (.slice CA CN CC)) (by rfl) rfl (by first | (go_simp; done) | (go_simp; rfl)) ?_
  refine hK.out _ _ ?_
  clear hK K
  refine done_ (done_of HT_.out (by kernel_rfl)) ?_
  obtain ⟨hH8, hg8⟩ := Kd.H_seg HHo6.out (by omega) (by omega) (seg := [.slice CA CN CC]) (j := 4) (by show 4 + 1 ≤ 5; omega) (fun x hx => by rw [List.mem_singleton.1 hx]; rfl)
  replace hH8 : Kd.H k57q 57 (w7.setCell ⟨gp, q.length * 5 + 4, none⟩ (.slice CA CN CC)) base (fun k => okP k ∧ k < w.heap.size ∨ w.heap.size ≤ k) (.slice (some ⟨gp, 0, none⟩) (q.length + 1) cap) (q ++ [p]) (q.length : Int) (fun k => oki k ∨ (okP k ∧ k < w.heap.size ∨ w.heap.size ≤ k) ∧ w.heap.size ≤ k) [.int .i64 p.f0, .int .i64 p.f1, .int .i64 p.f2, .bool p.f3, .slice CA CN CC] := hH8
  replace hg8 : w7.grownBy (w7.setCell ⟨gp, q.length * 5 + 4, none⟩ (.slice CA CN CC)) (some gp) := hg8
  have hnp : ∀ k, oki k ∨ w.heap.size ≤ k → some k ≠ some gp := fun k hk he => by
    injection he with he
    rcases hk with hk | hk
    · exact (HO2.out k hk).2 he
    · have := HGL.out
      omega
  have hC8 := Kd.S_grown HC1.out hg8 hnp
  obtain ⟨cur, hcur⟩ := (hole_at HHo6.out (Nat.lt_succ_self _)).2.2
  have hT8 := Kd.S_grown (Kd.S_types HT6.out hcur ne54) hg8 (fun k hk he => hk.2 (by injection he))
  have hB8 := blk_grown BK6.out hg8 (fun he => by
    injection he with he
    have := HGB.out
    have := HGP.out
    omega)
  have hF8 : Fr base g w (w7.setCell ⟨gp, q.length * 5 + 4, none⟩ (.slice CA CN CC)) := Fr.of_below (HB1.out.setCell (p := ⟨gp, q.length * 5 + 4, none⟩) HGP.out _)
  have hP8 := Kd.H_back hH8 (x' := ⟨p.f0, p.f1, p.f2, p.f3, p.f4 ++ [i]⟩) (k57q_mkM _ _ _ ⟨p.f0, p.f1, p.f2, p.f3, p.f4 ++ [i]⟩ hC8) (fun k hk => hk.elim Or.inl (fun h => Or.inr ⟨Or.inr h, h⟩))
  rw [Int.toNat_natCast, show (q ++ [p]).set q.length (⟨p.f0, p.f1, p.f2, p.f3, p.f4 ++ [i]⟩ : S57) = q ++ [⟨p.f0, p.f1, p.f2, p.f3, p.f4 ++ [i]⟩] by simp] at hP8
  have R0 := Aside0.mk hP8
  have R1 := Aside0.mk hT8
  have R2 := Aside0.mk hB8
  have R3 := Aside0.mk hF8
  clear hP8 hT8 hB8 hF8 hC8 hH8 hg8 hcur hnp z0 z1 hHeld
  generalize w7.setCell ⟨gp, q.length * 5 + 4, none⟩ (.slice CA CN CC) = w8 at R0 R1 R2 R3 ⊢
  go_wp2
  go_returns
  exact ⟨rfl, ⟨_, _, _, _, R2.out, R0.out, R1.out, fun k h1 h2 => h1.elim (fun h => HAP.out k h.1 h2.1.1) (fun h => Nat.lt_irrefl _ (Nat.lt_of_lt_of_le h2.1.2 h))⟩, R3.out⟩
set_option maxRecDepth 100000 in
set_option maxHeartbeats 8000000 in
theorem add_ins2 (base g : Nat) (q : List S57) (p : S57) (ts : List S54) (s wd : ByteArray) (n : List Int) (i : S28) (w : World) (hL : LW w) (hs : s.size < 4294967281) (h : readOf s = some (wd, n)) (hn : oneOf wd n = some i) (he : wd = progWord) (hl : n.length ≠ 4) (hU : UnitAt w base g (q ++ [p]) ts) (hgb : g < base) (hbw : base ≤ w.heap.size) (hq : q.length + 1 ≤ 4294967296) (hc : p.f4.length + 1 ≤ 4294967296) :
    Calls Tryd.prog 49 #[.pointer (some ⟨g, 0, none⟩), .string s] w fun e w' => e = .returned (.bool true) ∧ UnitAt w' base g (q ++ [⟨p.f0, p.f1, p.f2, p.f3, p.f4 ++ [i]⟩]) ts ∧ Fr base g w w' := by
  have hu57 := Tryd.underlying57
  have hu28 := Tryd.underlying28
  rw [show progWord = ⟨#[112, 114, 111, 103]⟩ from rfl] at he
  subst he
  have hl4 : ((n.length : Int) == 4) = false := by simp; omega
  obtain ⟨P, T, okP, okT, hbk, hP, hT, hap⟩ := hU
  obtain ⟨gp, cap, v4, oki, rfl, hgp1, hgp2, hS4, hoki1, hoki2, hH⟩ := last_open (Kd.S_mono (Kd.S_bound hP) (fun k hk => (Or.inl ⟨hk.1, hk.2.2.1⟩ : (okP k ∧ k < w.heap.size) ∨ w.heap.size ≤ k)))
  obtain ⟨A4, C4, rfl⟩ := Kd.S_slice hS4
  have BK := Aside0.mk hbk
  have HS4 := Aside0.mk hS4
  have HHo := Aside0.mk (Kd.H_widen hH)
  have HT := Aside0.mk (Kd.S_mono (Kd.S_bound hT) (fun k hk => (⟨hk.1, hk.2.2.1⟩ : okT k ∧ k < w.heap.size)))
  have HAP := Aside0.mk hap
  have HL := Aside0.mk hL
  have HH := Aside0.mk h
  have HN := Aside0.mk hn
  have HBW := Aside0.mk hbw
  have HGB := Aside0.mk hgb
  have HGP := Aside0.mk hgp1
  have HGL := Aside0.mk hgp2
  have HO1 := Aside0.mk hoki1
  have HO2 := Aside0.mk hoki2
  have HQQ := Aside0.mk hq
  have HCC := Aside0.mk hc
  have hw0 : wrap64 (q.length : Int) = (q.length : Int) := by simp only [wrap64]; omega
  have hw1 : (0 : Int) ≤ (q.length : Int) ∧ (q.length : Int) < (q.length : Int) + 1 := by omega
  have hw2 : ((q.length : Int) + 1 == 0) = false := by simp; omega
  clear hbk hP hT hap hL h hn hbw hgb hgp1 hgp2 hoki1 hoki2 hS4 hH hq hc
  go_enter Tryd.func49, Tryd.ntmps49
  go_wp2_with (first
    | (go_at_call 61; refine (read_yes s _ _ _ hs HL.out HH.out).mono ?_; rintro e w1 ⟨v, rfl, hr, hb⟩; obtain ⟨An, cn, rfl⟩ := Kd.R_slice hr; have HQ0 := Aside0.mk (Kd.Q_lower (Kd.Q_of_R (Kd.R_mono (Kd.R_bound hr) (fun k hk => (⟨hk.2.1, hk.2.2.1⟩ : w.heap.size ≤ k ∧ k < w1.heap.size)))) HBW.out); have HB := Aside0.mk hb; clear hr hb)
    | (go_at_call 62; refine (one_any _ HQ0.out).mono ?_; rw [HN.out]; rintro e w2 ⟨vi, rfl, hqi, hb⟩; obtain ⟨Ai, ci, rfl, _⟩ := Kd.Q_slice hqi; have HQ := Aside0.mk hqi; have HW1 := Aside0.mk hb.size; have n3_ := Aside0.mk (below_then HB.out HB.out.size hb); clear HB HQ0 hqi hb; have HB := n3_; clear n3_)
    | ((with_reducible refine gate_dst (N := 8) rfl ?_); refine box_event ?hg (N := 8) ?hd (cs := #[.int .i64 0, .int .i64 0, .int .i64 0, .slice none 0 0]) (t := 28) ?hr ?_; (case hd => rfl); (case hg => rfl); (case hr => first | (go_simp; done) | (go_simp; rfl)); intro g8 hg w3 hbox hb; have BK8 := Aside0.mk hbox; have GE8 := Aside0.mk (show w.heap.size ≤ g8 by rw [hg]; exact HB.out.size); have n1_ := Aside0.mk (Kd.Q_below HQ.out hb); have n3_ := Aside0.mk (below_then HB.out HB.out.size hb); have HW3 := Aside0.mk (Nat.le_trans HW1.out hb.size); clear HQ HB; have HQ := n1_; have HB := n3_; clear n1_ n3_ hg hbox hb)
    | (refine wpList_store_row rfl 28 (.tmp 8) (.tmp 108) rfl g8 #[.int .i64 i.f0, .int .i64 i.f1, .int .i64 i.f2, .slice Ai i.f3.length ci] rfl rfl 28 _ BK8.out (by kernel_rfl) rfl (by kernel_rfl) ?_; have n0_ : Aside0 ((w3.setRow g8 #[.int .i64 i.f0, .int .i64 i.f1, .int .i64 i.f2, .slice Ai i.f3.length ci]).heap[g8]? = some (.cells #[.int .i64 i.f0, .int .i64 i.f1, .int .i64 i.f2, .slice Ai i.f3.length ci] 28 (0, 0))) := ⟨setRow_heap _ _ _ _ _ _ BK8.out⟩; have n3_ := Aside0.mk (below_setRow HB.out GE8.out #[.int .i64 i.f0, .int .i64 i.f1, .int .i64 i.f2, .slice Ai i.f3.length ci]); have n1_ := Aside0.mk (Q_setRow HQ.out BK8.out (by decide) (cs' := #[.int .i64 i.f0, .int .i64 i.f1, .int .i64 i.f2, .slice Ai i.f3.length ci])); have n2_ := Aside0.mk (show w1.heap.size ≤ (w3.setRow g8 #[.int .i64 i.f0, .int .i64 i.f1, .int .i64 i.f2, .slice Ai i.f3.length ci]).heap.size by rw [setRow_size]; exact HW3.out); generalize w3.setRow g8 #[.int .i64 i.f0, .int .i64 i.f1, .int .i64 i.f2, .slice Ai i.f3.length ci] = w4 at n0_ n1_ n2_ n3_ ⊢; clear BK8 HQ HB; have BK8 := n0_; have HQ := n1_; have HB := n3_; have HW4 := n2_; clear n0_ n1_ n2_ n3_; have x0 : w4.cell? ⟨g, 0, none⟩ = some (.slice (some ⟨gp, 0, none⟩) (q.length + 1) cap) := (blk_cell (blk_below BK.out HB.out) 0).trans rfl))
  go_region
  have n0_ := Aside0.mk (blk_drew BK8.out)
  have n1_ := Aside0.mk (Kd.Q_drew HQ.out)
  have n2_ := Aside0.mk (show w1.heap.size ≤ w4.drew.heap.size from HW4.out)
  have n3_ := Aside0.mk (below_drew1 HB.out)
  generalize w4.drew = w5 at n0_ n1_ n2_ n3_ ⊢
  clear BK8 HQ HB HW4 HW1 HW3 x0
  have BK8 := n0_
  have HQ := n1_
  have HW5 := n2_
  have HB := n3_
  clear n0_ n1_ n2_ n3_
  go_wp2_with (fail)
  have n0_ := Aside0.mk (blk_drew BK8.out)
  have n1_ := Aside0.mk (Kd.Q_drew HQ.out)
  have n2_ := Aside0.mk (show w1.heap.size ≤ w5.drew.heap.size from HW5.out)
  have n3_ := Aside0.mk (below_drew1 HB.out)
  have n4_ := Aside0.mk (Kd.H_below HHo.out n3_.out)
  refine start_ (n := 11) (S := fun w' => w'.cell? ⟨gp, q.length * 5 + 4, none⟩ = some (.slice A4 p.f4.length C4) ∧ w'.cell? ⟨g8, 0, none⟩ = some (.int .i64 i.f0) ∧ w'.cell? ⟨g8, 1, none⟩ = some (.int .i64 i.f1) ∧ w'.cell? ⟨g8, 2, none⟩ = some (.int .i64 i.f2) ∧ w'.cell? ⟨g8, 3, none⟩ = some (.slice Ai i.f3.length ci)) (ds := [10]) #[false, false, false, false, false, false, false, false, false, false, false] (by kernel_rfl) rfl rfl ⟨(hole_at n4_.out (Nat.lt_succ_self _)).1 4 _ rfl, (blk_cell n0_.out 0).trans rfl, (blk_cell n0_.out 1).trans rfl, (blk_cell n0_.out 2).trans rfl, (blk_cell n0_.out 3).trans rfl⟩ (fun hHeld => ?_)
  refine with_tabW a18tab a18bits (fun HT_ HW_ => ?_)
  generalize w5.drew = w6 at n0_ n1_ n2_ n3_ n4_ hHeld ⊢
  clear BK8 HQ HB HW5
  have BK8 := n0_
  have HQ := n1_
  have HW6 := n2_
  have HB := n3_
  have HHo6 := n4_
  clear n0_ n1_ n2_ n3_ n4_
  have HS6 := Aside0.mk (Kd.S_below HS4.out HB.out)
  have HT6 := Aside0.mk (Kd.S_below HT.out HB.out)
  have BK6 := Aside0.mk (blk_below BK.out HB.out)
  refine pure_ (i := 0) (N := some 131) (v := ?_) (a' := ?_) #[true, false, false, false, false, false, false, false, false, false, false] rfl rfl (any_of HT_.out (by kernel_rfl)) (fun _ _ _ h => h) (Or.inl ⟨by rfl, ?_⟩) ?_ ?_
  rotate_left
  · intro w'
    go_simp
    with_reducible rfl
  rotate_left
  · simp only [Act.put, List.setIfInBounds_toArray, List.set_cons_zero, List.set_cons_succ, i64_w, i32_w]
    rfl
  refine pure_ (i := 1) (N := some 132) (v := ?_) (a' := ?_) #[true, true, false, false, false, false, false, false, false, false, false] rfl rfl (any_of HT_.out (by kernel_rfl)) (fun _ _ _ h => h) (Or.inl ⟨by rfl, ?_⟩) ?_ ?_
  rotate_left
  · intro w'
    go_simp
    with_reducible rfl
  rotate_left
  · simp only [Act.put, List.setIfInBounds_toArray, List.set_cons_zero, List.set_cons_succ, i64_w, i32_w]
    rfl
  refine pure_ (i := 2) (N := some 133) (v := ?_) (a' := ?_) #[true, true, true, false, false, false, false, false, false, false, false] rfl rfl (any_of HT_.out (by kernel_rfl)) (fun _ _ _ h => h) (Or.inl ⟨by rfl, ?_⟩) ?_ ?_
  rotate_left
  · intro w'
    go_simp
    with_reducible rfl
  rotate_left
  · simp only [Act.put, List.setIfInBounds_toArray, List.set_cons_zero, List.set_cons_succ, i64_w, i32_w]
    rfl
  refine pure_ (i := 3) (N := some 134) (v := ?_) (a' := ?_) #[true, true, true, true, false, false, false, false, false, false, false] rfl rfl (any_of HT_.out (by kernel_rfl)) (fun _ _ _ h => h) (Or.inl ⟨by rfl, ?_⟩) ?_ ?_
  rotate_left
  · intro w'
    go_simp
    with_reducible rfl
  rotate_left
  · simp only [Act.put, List.setIfInBounds_toArray, List.set_cons_zero, List.set_cons_succ, i64_w, i32_w]
    rfl
  refine take_ (i := 4) (N := some 135) (v := ?_) (a' := ?_) #[true, true, true, true, true, false, false, false, false, false, false] rfl rfl (take_ofW HT_.out HW_.out (by kernel_rfl)) (fun _ _ _ h => h) (Or.inl ⟨by rfl, ?_⟩) hHeld ?_ ?_
  rotate_left
  · rintro w' ⟨s0, s1, s2, s3, s4⟩
    go_simp
    with_reducible rfl
  rotate_left
  · simp only [Act.put, List.setIfInBounds_toArray, List.set_cons_zero, List.set_cons_succ, i64_w, i32_w]
    rfl
  refine take_ (i := 5) (N := some 136) (v := ?_) (a' := ?_) #[true, true, true, true, true, true, false, false, false, false, false] rfl rfl (take_ofW HT_.out HW_.out (by kernel_rfl)) (fun _ _ _ h => h) (Or.inl ⟨by rfl, ?_⟩) hHeld ?_ ?_
  rotate_left
  · rintro w' ⟨s0, s1, s2, s3, s4⟩
    go_simp
    with_reducible rfl
  rotate_left
  · simp only [Act.put, List.setIfInBounds_toArray, List.set_cons_zero, List.set_cons_succ, i64_w, i32_w]
    rfl
  refine one_ (i := 6) (N := some 137) #[true, true, true, true, true, true, true, false, false, false, false] rfl rfl (one_of HT_.out (by kernel_rfl)) (by decide) (fun K hK => ?_)
  refine event_step (v := .slice (some ⟨w6.heap.size, 0, none⟩) 1 1) (w1 := w6.alloc (.cells #[.int .i64 i.f0, .int .i64 i.f1, .int .i64 i.f2, .slice Ai i.f3.length ci] 28)) (by rfl) (by first | (go_simp; done) | (go_simp; rfl)) ?_
  refine hK.out _ _ ⟨pw_cell_below (below_alloc (Below.refl _ w6) (.cells #[.int .i64 i.f0, .int .i64 i.f1, .int .i64 i.f2, .slice Ai i.f3.length ci] 28)) ((hole_at HHo6.out (Nat.lt_succ_self _)).1 4 _ rfl), pw_cell_below (below_alloc (Below.refl _ w6) (.cells #[.int .i64 i.f0, .int .i64 i.f1, .int .i64 i.f2, .slice Ai i.f3.length ci] 28)) ((blk_cell BK8.out 0).trans rfl), pw_cell_below (below_alloc (Below.refl _ w6) (.cells #[.int .i64 i.f0, .int .i64 i.f1, .int .i64 i.f2, .slice Ai i.f3.length ci] 28)) ((blk_cell BK8.out 1).trans rfl), pw_cell_below (below_alloc (Below.refl _ w6) (.cells #[.int .i64 i.f0, .int .i64 i.f1, .int .i64 i.f2, .slice Ai i.f3.length ci] 28)) ((blk_cell BK8.out 2).trans rfl), pw_cell_below (below_alloc (Below.refl _ w6) (.cells #[.int .i64 i.f0, .int .i64 i.f1, .int .i64 i.f2, .slice Ai i.f3.length ci] 28)) ((blk_cell BK8.out 3).trans rfl)⟩ (fun hHeld => ?_)
  clear hK K
  refine norm_ (a' := ?_) ?_ ?_
  rotate_left
  · show Act.put _ (some 137) _ = _
    simp only [Act.put, List.setIfInBounds_toArray, List.set_cons_zero, List.set_cons_succ, i64_w, i32_w]
    rfl
  refine one_ (i := 7) (N := some 138) #[true, true, true, true, true, true, true, true, false, false, false] rfl rfl (one_of HT_.out (by kernel_rfl)) (by decide) (fun K hK => ?_)
  refine Kd.S_append_step k28q (w0 := w) base (by rfl) (.tmp 135) (.tmp 137) 55 28 (.agg #[.int .i64 0, .int .i64 0, .int .i64 0, .slice none 0 0]) 48 (by rfl) Tryd.underlying55 info28 (by rfl) (by decide) (by omega) (.slice A4 p.f4.length C4) p.f4 i [.int .i64 i.f0, .int .i64 i.f1, .int .i64 i.f2, .slice Ai i.f3.length ci] (fun k => oki k ∨ w.heap.size ≤ k) (fun k => w.heap.size ≤ k ∧ k < w1.heap.size) (by rfl) (by rfl) (k28q_mkM _ _ _ i HQ.out) ?aK (fun k hk => Or.inr (Nat.le_trans HB.out.size hk)) (Kd.S_mono HS6.out (fun k hk => ⟨Or.inl hk, fun h => Nat.lt_irrefl _ (Nat.lt_of_lt_of_le (HO1.out k hk) h.1)⟩)) ?aB ?aS ?aL ?_
  case aK => exact fun k hk => ⟨Or.inr hk.1, fun he => Nat.lt_irrefl _ (Nat.lt_of_lt_of_le (HO1.out k ((Kd.S_R HS6.out).1 k he.symm)) hk.1)⟩
  case aB => exact HB.out.mono HBW.out
  case aS => exact Nat.le_trans HBW.out HB.out.size
  case aL => have := HCC.out; omega
  intro C1 w7 hC1 hb1 hg1 hat1
  obtain ⟨CA, CN, CC, rfl⟩ : ∃ CA CN CC, C1 = .slice CA CN CC := by
    obtain ⟨A, c, e⟩ := Kd.S_slice hC1
    exact ⟨A, _, c, e⟩
  have n0_ := Aside0.mk (blk_grown BK6.out hg1 (Kd.S_ne HS6.out BK6.out (by decide)))
  have n1_ := Aside0.mk (blk_grown BK8.out hg1 (fun he => Nat.lt_irrefl _ (Nat.lt_of_lt_of_le (HO1.out g8 ((Kd.S_R HS6.out).1 g8 he.symm)) GE8.out)))
  have n3_ := Aside0.mk (Kd.S_over' HT6.out (Kd.S_typed HS6.out) ne54r hg1)
  have n4_ := Aside0.mk (Kd.H_grown HHo6.out hg1 (fun k hk => Or.inl ((Kd.S_R HS6.out).1 k hk)))
  have HC1 := Aside0.mk hC1
  have HB1 := Aside0.mk hb1
  have HZ := Aside0.mk (Nat.le_trans HB.out.size hg1.size)
  clear hC1 hb1 hg1 hat1 BK6 BK8 HT6 HHo6 HS6 HQ
  have BK6 := n0_
  have BK8 := n1_
  have HT6 := n3_
  have HHo6 := n4_
  clear n0_ n1_ n3_ n4_
  refine hK.out _ _ ⟨(hole_at HHo6.out (Nat.lt_succ_self _)).1 4 _ rfl, (blk_cell BK8.out 0).trans rfl, (blk_cell BK8.out 1).trans rfl, (blk_cell BK8.out 2).trans rfl, (blk_cell BK8.out 3).trans rfl⟩ (fun hHeld => ?_)
  clear hK K
  refine norm_ (a' := ?_) ?_ ?_
  rotate_left
  · show Act.put _ (some 138) _ = _
    simp only [Act.put, List.setIfInBounds_toArray, List.set_cons_zero, List.set_cons_succ, i64_w, i32_w]
    rfl
  refine pure_ (i := 8) (N := some 139) (v := ?_) (a' := ?_) #[true, true, true, true, true, true, true, true, true, false, false] rfl rfl (any_of HT_.out (by kernel_rfl)) (fun _ _ _ h => h) (Or.inl ⟨by rfl, ?_⟩) ?_ ?_
  rotate_left
  · intro w'
    go_simp
    with_reducible rfl
  rotate_left
  · simp only [Act.put, List.setIfInBounds_toArray, List.set_cons_zero, List.set_cons_succ, i64_w, i32_w]
    rfl
  refine pure_ (i := 9) (N := some 140) (v := ?_) (a' := ?_) #[true, true, true, true, true, true, true, true, true, true, false] rfl rfl (any_of HT_.out (by kernel_rfl)) (fun _ _ _ h => h) (Or.inl ⟨by rfl, ?_⟩) ?_ ?_
  rotate_left
  · intro w'
    go_simp
    with_reducible rfl
  rotate_left
  · simp only [Act.put, List.setIfInBounds_toArray, List.set_cons_zero, List.set_cons_succ, i64_w, i32_w]
    rfl
  have z0 := (hole_at HHo6.out (Nat.lt_succ_self _)).2.1 4
  have z1 := (hole_at HHo6.out (Nat.lt_succ_self _)).1 4 _ rfl
  refine last_ (i := 10) (N := none) #[true, true, true, true, true, true, true, true, true, true, true] rfl rfl (one_of HT_.out (by kernel_rfl)) (by decide) (fun K hK => ?_)
  refine store_step (w1 := w7.setCell ⟨gp, q.length * 5 + 4, none⟩ (.slice CA CN CC)) (by rfl) rfl (by first | (go_simp; done) | (go_simp; rfl)) ?_
  refine hK.out _ _ ?_
  clear hK K
  refine done_ (done_of HT_.out (by kernel_rfl)) ?_
  obtain ⟨hH8, hg8⟩ := Kd.H_seg HHo6.out (by omega) (by omega) (seg := [.slice CA CN CC]) (j := 4) (by show 4 + 1 ≤ 5; omega) (fun x hx => by rw [List.mem_singleton.1 hx]; rfl)
  replace hH8 : Kd.H k57q 57 (w7.setCell ⟨gp, q.length * 5 + 4, none⟩ (.slice CA CN CC)) base (fun k => okP k ∧ k < w.heap.size ∨ w.heap.size ≤ k) (.slice (some ⟨gp, 0, none⟩) (q.length + 1) cap) (q ++ [p]) (q.length : Int) (fun k => oki k ∨ (okP k ∧ k < w.heap.size ∨ w.heap.size ≤ k) ∧ w.heap.size ≤ k) [.int .i64 p.f0, .int .i64 p.f1, .int .i64 p.f2, .bool p.f3, .slice CA CN CC] := hH8
  replace hg8 : w7.grownBy (w7.setCell ⟨gp, q.length * 5 + 4, none⟩ (.slice CA CN CC)) (some gp) := hg8
  have hnp : ∀ k, oki k ∨ w.heap.size ≤ k → some k ≠ some gp := fun k hk he => by
    injection he with he
    rcases hk with hk | hk
    · exact (HO2.out k hk).2 he
    · have := HGL.out
      omega
  have hC8 := Kd.S_grown HC1.out hg8 hnp
  obtain ⟨cur, hcur⟩ := (hole_at HHo6.out (Nat.lt_succ_self _)).2.2
  have hT8 := Kd.S_grown (Kd.S_types HT6.out hcur ne54) hg8 (fun k hk he => hk.2 (by injection he))
  have hB8 := blk_grown BK6.out hg8 (fun he => by
    injection he with he
    have := HGB.out
    have := HGP.out
    omega)
  have hF8 : Fr base g w (w7.setCell ⟨gp, q.length * 5 + 4, none⟩ (.slice CA CN CC)) := Fr.of_below (HB1.out.setCell (p := ⟨gp, q.length * 5 + 4, none⟩) HGP.out _)
  have hP8 := Kd.H_back hH8 (x' := ⟨p.f0, p.f1, p.f2, p.f3, p.f4 ++ [i]⟩) (k57q_mkM _ _ _ ⟨p.f0, p.f1, p.f2, p.f3, p.f4 ++ [i]⟩ hC8) (fun k hk => hk.elim Or.inl (fun h => Or.inr ⟨Or.inr h, h⟩))
  rw [Int.toNat_natCast, show (q ++ [p]).set q.length (⟨p.f0, p.f1, p.f2, p.f3, p.f4 ++ [i]⟩ : S57) = q ++ [⟨p.f0, p.f1, p.f2, p.f3, p.f4 ++ [i]⟩] by simp] at hP8
  have R0 := Aside0.mk hP8
  have R1 := Aside0.mk hT8
  have R2 := Aside0.mk hB8
  have R3 := Aside0.mk hF8
  clear hP8 hT8 hB8 hF8 hC8 hH8 hg8 hcur hnp z0 z1 hHeld
  generalize w7.setCell ⟨gp, q.length * 5 + 4, none⟩ (.slice CA CN CC) = w8 at R0 R1 R2 R3 ⊢
  go_wp2
  go_returns
  exact ⟨rfl, ⟨_, _, _, _, R2.out, R0.out, R1.out, fun k h1 h2 => h1.elim (fun h => HAP.out k h.1 h2.1.1) (fun h => Nat.lt_irrefl _ (Nat.lt_of_lt_of_le h2.1.2 h))⟩, R3.out⟩
set_option maxRecDepth 100000 in
set_option maxHeartbeats 4000000 in
theorem add_bad2 (p : Value) (s wd : ByteArray) (n : List Int) (w : World) (hL : LW w) (hs : s.size < 4294967281) (h : readOf s = some (wd, n)) (hn : oneOf wd n = none) (he : wd = progWord) (hl : n.length ≠ 4) :
    Calls Tryd.prog 49 #[p, .string s] w fun e w' => e = .returned (.bool false) ∧ Below w.heap.size w w' := by
  rw [show progWord = ⟨#[112, 114, 111, 103]⟩ from rfl] at he
  subst he
  have hl4 : ((n.length : Int) == 4) = false := by simp; omega
  have HL := Aside0.mk hL
  have HH := Aside0.mk h
  have HN := Aside0.mk hn
  clear hL h hn
  go_enter Tryd.func49, Tryd.ntmps49
  go_wp2_with (first
    | (go_at_call 61; refine (read_yes s _ _ _ hs HL.out HH.out).mono ?_; rintro e w1 ⟨v, rfl, hr, hb⟩; obtain ⟨An, cn, rfl⟩ := Kd.R_slice hr; have HR := Aside0.mk hr; have HB := Aside0.mk hb; clear hr hb)
    | (go_at_call 62; refine (one_any _ (Kd.Q_of_R HR.out)).mono ?_; rw [HN.out]; rintro e w2 ⟨⟨a0, b0, c0, rfl⟩, hb⟩; have HB2 := Aside0.mk (below_then HB.out HB.out.size hb); clear hb)
    | ((with_reducible refine gate_dst (N := 8) rfl ?_); refine box_event ?hg (N := 8) ?hd (cs := #[.int .i64 0, .int .i64 0, .int .i64 0, .slice none 0 0]) (t := 28) ?hr ?_; (case hd => rfl); (case hg => rfl); (case hr => first | (go_simp; done) | (go_simp; rfl)); intro g8 hg w3 hbox hb; have BK8 := Aside0.mk hbox; have GE8 := Aside0.mk (show w.heap.size ≤ g8 by rw [hg]; exact HB2.out.size); have HB3 := Aside0.mk (below_then HB2.out HB2.out.size hb); clear hg hbox hb)
    | (refine wpList_store_row rfl 28 (.tmp 8) (.tmp 108) rfl g8 #[.int .i64 a0, .int .i64 b0, .int .i64 c0, .slice none 0 0] rfl rfl 28 _ BK8.out (by kernel_rfl) rfl (by kernel_rfl) ?_; have HB4 := Aside0.mk (below_setRow HB3.out GE8.out #[.int .i64 a0, .int .i64 b0, .int .i64 c0, .slice none 0 0]); generalize w3.setRow g8 #[.int .i64 a0, .int .i64 b0, .int .i64 c0, .slice none 0 0] = w4 at HB4 ⊢))
  go_returns
  exact ⟨rfl, HB4.out⟩
set_option maxRecDepth 100000 in
set_option maxHeartbeats 4000000 in
theorem add_early1 (g : Nat) (A : Option Addr) (c0 : Nat) (T : Value) (s wd : ByteArray) (n : List Int) (i : S28) (w : World) (hL : LW w) (hs : s.size < 4294967281) (h : readOf s = some (wd, n)) (hn : oneOf wd n = some i) (ht : (wd.toList == [116, 121, 112, 101]) = false) (hp : (wd.toList == [112, 114, 111, 103]) = false) (hbk : w.heap[g]? = some (.cells #[.slice A 0 c0, T] 36 (0, 0))) :
    Calls Tryd.prog 49 #[.pointer (some ⟨g, 0, none⟩), .string s] w fun e w' => e = .returned (.bool false) ∧ Below w.heap.size w w' := by
  have BK := Aside0.mk hbk
  have HL := Aside0.mk hL
  have HH := Aside0.mk h
  have HN := Aside0.mk hn
  clear hbk hL h hn
  go_enter Tryd.func49, Tryd.ntmps49
  go_wp2_with (first
    | (go_at_call 61; refine (read_yes s _ _ _ hs HL.out HH.out).mono ?_; rintro e w1 ⟨v, rfl, hr, hb⟩; obtain ⟨An, cn, rfl⟩ := Kd.R_slice hr; have HR := Aside0.mk hr; have HB := Aside0.mk hb; clear hr hb)
    | (go_at_call 62; refine (one_any _ (Kd.Q_of_R HR.out)).mono ?_; rw [HN.out]; rintro e w2 ⟨vi, rfl, hqi, hb⟩; obtain ⟨Ai, ci, rfl, _⟩ := Kd.Q_slice hqi; have HB2 := Aside0.mk (below_then HB.out HB.out.size hb); clear hqi hb)
    | ((with_reducible refine gate_dst (N := 8) rfl ?_); refine box_event ?hg (N := 8) ?hd (cs := #[.int .i64 0, .int .i64 0, .int .i64 0, .slice none 0 0]) (t := 28) ?hr ?_; (case hd => rfl); (case hg => rfl); (case hr => first | (go_simp; done) | (go_simp; rfl)); intro g8 hg w3 hbox hb; have BK8 := Aside0.mk hbox; have GE8 := Aside0.mk (show w.heap.size ≤ g8 by rw [hg]; exact HB2.out.size); have HB3 := Aside0.mk (below_then HB2.out HB2.out.size hb); clear hg hbox hb)
    | (refine wpList_store_row rfl 28 (.tmp 8) (.tmp 108) rfl g8 #[.int .i64 i.f0, .int .i64 i.f1, .int .i64 i.f2, .slice Ai i.f3.length ci] rfl rfl 28 _ BK8.out (by kernel_rfl) rfl (by kernel_rfl) ?_; have HB4 := Aside0.mk (below_setRow HB3.out GE8.out #[.int .i64 i.f0, .int .i64 i.f1, .int .i64 i.f2, .slice Ai i.f3.length ci]); generalize w3.setRow g8 #[.int .i64 i.f0, .int .i64 i.f1, .int .i64 i.f2, .slice Ai i.f3.length ci] = w4 at HB4 ⊢; have x0 : w4.cell? ⟨g, 0, none⟩ = some (.slice A 0 c0) := (blk_cell (blk_below BK.out HB4.out) 0).trans rfl))
  go_returns
  exact ⟨rfl, HB4.out⟩
set_option maxRecDepth 100000 in
set_option maxHeartbeats 4000000 in
theorem add_early2 (g : Nat) (A : Option Addr) (c0 : Nat) (T : Value) (s wd : ByteArray) (n : List Int) (i : S28) (w : World) (hL : LW w) (hs : s.size < 4294967281) (h : readOf s = some (wd, n)) (hn : oneOf wd n = some i) (he : wd = progWord) (hl : n.length ≠ 4) (hbk : w.heap[g]? = some (.cells #[.slice A 0 c0, T] 36 (0, 0))) :
    Calls Tryd.prog 49 #[.pointer (some ⟨g, 0, none⟩), .string s] w fun e w' => e = .returned (.bool false) ∧ Below w.heap.size w w' := by
  rw [show progWord = ⟨#[112, 114, 111, 103]⟩ from rfl] at he
  subst he
  have hl4 : ((n.length : Int) == 4) = false := by simp; omega
  have BK := Aside0.mk hbk
  have HL := Aside0.mk hL
  have HH := Aside0.mk h
  have HN := Aside0.mk hn
  clear hbk hL h hn
  go_enter Tryd.func49, Tryd.ntmps49
  go_wp2_with (first
    | (go_at_call 61; refine (read_yes s _ _ _ hs HL.out HH.out).mono ?_; rintro e w1 ⟨v, rfl, hr, hb⟩; obtain ⟨An, cn, rfl⟩ := Kd.R_slice hr; have HR := Aside0.mk hr; have HB := Aside0.mk hb; clear hr hb)
    | (go_at_call 62; refine (one_any _ (Kd.Q_of_R HR.out)).mono ?_; rw [HN.out]; rintro e w2 ⟨vi, rfl, hqi, hb⟩; obtain ⟨Ai, ci, rfl, _⟩ := Kd.Q_slice hqi; have HB2 := Aside0.mk (below_then HB.out HB.out.size hb); clear hqi hb)
    | ((with_reducible refine gate_dst (N := 8) rfl ?_); refine box_event ?hg (N := 8) ?hd (cs := #[.int .i64 0, .int .i64 0, .int .i64 0, .slice none 0 0]) (t := 28) ?hr ?_; (case hd => rfl); (case hg => rfl); (case hr => first | (go_simp; done) | (go_simp; rfl)); intro g8 hg w3 hbox hb; have BK8 := Aside0.mk hbox; have GE8 := Aside0.mk (show w.heap.size ≤ g8 by rw [hg]; exact HB2.out.size); have HB3 := Aside0.mk (below_then HB2.out HB2.out.size hb); clear hg hbox hb)
    | (refine wpList_store_row rfl 28 (.tmp 8) (.tmp 108) rfl g8 #[.int .i64 i.f0, .int .i64 i.f1, .int .i64 i.f2, .slice Ai i.f3.length ci] rfl rfl 28 _ BK8.out (by kernel_rfl) rfl (by kernel_rfl) ?_; have HB4 := Aside0.mk (below_setRow HB3.out GE8.out #[.int .i64 i.f0, .int .i64 i.f1, .int .i64 i.f2, .slice Ai i.f3.length ci]); generalize w3.setRow g8 #[.int .i64 i.f0, .int .i64 i.f1, .int .i64 i.f2, .slice Ai i.f3.length ci] = w4 at HB4 ⊢; have x0 : w4.cell? ⟨g, 0, none⟩ = some (.slice A 0 c0) := (blk_cell (blk_below BK.out HB4.out) 0).trans rfl))
  go_returns
  exact ⟨rfl, HB4.out⟩
end Go.Proofs.YtfkfgjmhcfagkaaDoor.Given
end
section
namespace Go.Proofs.YtfkfgjmhcfagkaaDoor.Given
open Go.RowKit Go.Proofs.YtfkfgjmhcfagkaaDoorW.PrintWords Go.Proofs.YtfkfgjmhcfagkaaDoorW.PrintLast Go.Proofs.YtfkfgjmhcfagkaaDoorW.PrintMore Go.Proofs.YtfkfgjmhcfagkaaDoor.Print
set_option linter.unusedVariables false
set_option linter.unusedSimpArgs false
set_option maxRecDepth 100000 in
set_option maxHeartbeats 4000000 in
theorem add_prog1 (base g : Nat) (ps : List S57) (ts : List S54) (s : ByteArray) (a b c : Int) (w : World) (hL : LW w) (hs : s.size < 4294967281) (h : readOf s = some (progWord, [a, b, c, 1])) (hU : UnitAt w base g ps ts) (hgb : g < base) (hbw : base ≤ w.heap.size) (hps : ps.length + 1 ≤ 4294967296) :
    Calls Tryd.prog 49 #[.pointer (some ⟨g, 0, none⟩), .string s] w fun e w' => e = .returned (.bool true) ∧ UnitAt w' base g (ps ++ [⟨a, b, c, true, []⟩]) ts ∧ Fr base g w w' := by
  have hu57 := Tryd.underlying57
  rw [show progWord = ⟨#[112, 114, 111, 103]⟩ from rfl] at h
  obtain ⟨P, T, okP, okT, hbk, hP, hT, hap⟩ := hU
  have BK := Aside0.mk hbk
  have HP := Aside0.mk hP
  have HT := Aside0.mk hT
  have HAP := Aside0.mk hap
  have HL := Aside0.mk hL
  have HH := Aside0.mk h
  have HBW := Aside0.mk hbw
  have HGB := Aside0.mk hgb
  have HPS := Aside0.mk hps
  clear hbk hP hT hap hL h hbw hgb hps
  go_enter Tryd.func49, Tryd.ntmps49
  go_wp2_with (go_at_call 61; refine (read_yes s _ _ _ hs HL.out HH.out).mono ?_; rintro e w1 ⟨v, rfl, hr, hb⟩; obtain ⟨gn, cn, rfl, hgn, hgn2, hty⟩ := Kd.R_form hr (by simp); have HR := Aside0.mk hr; have HB := Aside0.mk hb; have m3 := Aside0.mk hgn; clear hr hb hgn hgn2 hty; have x3 : w1.cell? ⟨gn, 3, none⟩ = some (.int .i64 1) := num_cell HR.out 3 1 rfl)
  have n0_ := Aside0.mk (blk_drew (blk_below BK.out HB.out))
  have n1_ := Aside0.mk (Kd.R_drew HR.out)
  have n2_ := Aside0.mk (Kd.S_drew (Kd.S_below HP.out HB.out))
  have n3_ := Aside0.mk (Kd.S_drew (Kd.S_below HT.out HB.out))
  have n4_ := Aside0.mk (below_drew1 HB.out)
  refine start_ (n := 24) (S := fun w' => w'.cell? ⟨g, 0, none⟩ = some (P) ∧ w'.cell? ⟨gn, 0, none⟩ = some (.int .i64 a) ∧ w'.cell? ⟨gn, 1, none⟩ = some (.int .i64 b) ∧ w'.cell? ⟨gn, 2, none⟩ = some (.int .i64 c) ∧ w'.cell? ⟨gn, 3, none⟩ = some (.int .i64 1)) (ds := [23]) #[false, false, false, false, false, false, false, false, false, false, false, false, false, false, false, false, false, false, false, false, false, false, false, false] (by kernel_rfl) rfl rfl ⟨(blk_cell n0_.out 0).trans rfl, num_cell n1_.out 0 a rfl, num_cell n1_.out 1 b rfl, num_cell n1_.out 2 c rfl, num_cell n1_.out 3 1 rfl⟩ (fun hHeld => ?_)
  refine with_tabW a12tab a12bits (fun HT_ HW_ => ?_)
  generalize w1.drew = w2 at n0_ n1_ n2_ n3_ n4_ hHeld ⊢
  clear BK HR HP HT HB x3
  have BK := n0_
  have HR := n1_
  have HP := n2_
  have HT := n3_
  have HB := n4_
  clear n0_ n1_ n2_ n3_ n4_
  refine pure_ (i := 0) (N := some 81) (v := ?_) (a' := ?_) #[true, false, false, false, false, false, false, false, false, false, false, false, false, false, false, false, false, false, false, false, false, false, false, false] rfl rfl (any_of HT_.out (by kernel_rfl)) (fun _ _ _ h => h) (Or.inl ⟨by rfl, ?_⟩) ?_ ?_
  rotate_left
  · intro w'
    go_simp
    with_reducible rfl
  rotate_left
  · simp only [Act.put, List.setIfInBounds_toArray, List.set_cons_zero, List.set_cons_succ, i64_w, i32_w]
    rfl
  refine pure_ (i := 1) (N := some 82) (v := ?_) (a' := ?_) #[true, true, false, false, false, false, false, false, false, false, false, false, false, false, false, false, false, false, false, false, false, false, false, false] rfl rfl (any_of HT_.out (by kernel_rfl)) (fun _ _ _ h => h) (Or.inl ⟨by rfl, ?_⟩) ?_ ?_
  rotate_left
  · intro w'
    go_simp
    with_reducible rfl
  rotate_left
  · simp only [Act.put, List.setIfInBounds_toArray, List.set_cons_zero, List.set_cons_succ, i64_w, i32_w]
    rfl
  refine pure_ (i := 2) (N := some 83) (v := ?_) (a' := ?_) #[true, true, true, false, false, false, false, false, false, false, false, false, false, false, false, false, false, false, false, false, false, false, false, false] rfl rfl (any_of HT_.out (by kernel_rfl)) (fun _ _ _ h => h) (Or.inl ⟨by rfl, ?_⟩) ?_ ?_
  rotate_left
  · intro w'
    go_simp
    with_reducible rfl
  rotate_left
  · simp only [Act.put, List.setIfInBounds_toArray, List.set_cons_zero, List.set_cons_succ, i64_w, i32_w]
    rfl
  refine pure_ (i := 3) (N := some 84) (v := ?_) (a' := ?_) #[true, true, true, true, false, false, false, false, false, false, false, false, false, false, false, false, false, false, false, false, false, false, false, false] rfl rfl (any_of HT_.out (by kernel_rfl)) (fun _ _ _ h => h) (Or.inl ⟨by rfl, ?_⟩) ?_ ?_
  rotate_left
  · intro w'
    go_simp
    with_reducible rfl
  rotate_left
  · simp only [Act.put, List.setIfInBounds_toArray, List.set_cons_zero, List.set_cons_succ, i64_w, i32_w]
    rfl
  refine pure_ (i := 5) (N := some 86) (v := ?_) (a' := ?_) #[true, true, true, true, false, true, false, false, false, false, false, false, false, false, false, false, false, false, false, false, false, false, false, false] rfl rfl (any_of HT_.out (by kernel_rfl)) (fun _ _ _ h => h) (Or.inl ⟨by rfl, ?_⟩) ?_ ?_
  rotate_left
  · intro w'
    go_simp
    with_reducible rfl
  rotate_left
  · simp only [Act.put, List.setIfInBounds_toArray, List.set_cons_zero, List.set_cons_succ, i64_w, i32_w]
    rfl
  refine pure_ (i := 6) (N := some 87) (v := ?_) (a' := ?_) #[true, true, true, true, false, true, true, false, false, false, false, false, false, false, false, false, false, false, false, false, false, false, false, false] rfl rfl (any_of HT_.out (by kernel_rfl)) (fun _ _ _ h => h) (Or.inl ⟨by rfl, ?_⟩) ?_ ?_
  rotate_left
  · intro w'
    go_simp
    with_reducible rfl
  rotate_left
  · simp only [Act.put, List.setIfInBounds_toArray, List.set_cons_zero, List.set_cons_succ, i64_w, i32_w]
    rfl
  refine pure_ (i := 8) (N := some 89) (v := ?_) (a' := ?_) #[true, true, true, true, false, true, true, false, true, false, false, false, false, false, false, false, false, false, false, false, false, false, false, false] rfl rfl (any_of HT_.out (by kernel_rfl)) (fun _ _ _ h => h) (Or.inl ⟨by rfl, ?_⟩) ?_ ?_
  rotate_left
  · intro w'
    go_simp
    with_reducible rfl
  rotate_left
  · simp only [Act.put, List.setIfInBounds_toArray, List.set_cons_zero, List.set_cons_succ, i64_w, i32_w]
    rfl
  refine pure_ (i := 9) (N := some 90) (v := ?_) (a' := ?_) #[true, true, true, true, false, true, true, false, true, true, false, false, false, false, false, false, false, false, false, false, false, false, false, false] rfl rfl (any_of HT_.out (by kernel_rfl)) (fun _ _ _ h => h) (Or.inl ⟨by rfl, ?_⟩) ?_ ?_
  rotate_left
  · intro w'
    go_simp
    with_reducible rfl
  rotate_left
  · simp only [Act.put, List.setIfInBounds_toArray, List.set_cons_zero, List.set_cons_succ, i64_w, i32_w]
    rfl
  refine pure_ (i := 11) (N := some 92) (v := ?_) (a' := ?_) #[true, true, true, true, false, true, true, false, true, true, false, true, false, false, false, false, false, false, false, false, false, false, false, false] rfl rfl (any_of HT_.out (by kernel_rfl)) (fun _ _ _ h => h) (Or.inl ⟨by rfl, ?_⟩) ?_ ?_
  rotate_left
  · intro w'
    go_simp
    with_reducible rfl
  rotate_left
  · simp only [Act.put, List.setIfInBounds_toArray, List.set_cons_zero, List.set_cons_succ, i64_w, i32_w]
    rfl
  refine pure_ (i := 12) (N := some 93) (v := ?_) (a' := ?_) #[true, true, true, true, false, true, true, false, true, true, false, true, true, false, false, false, false, false, false, false, false, false, false, false] rfl rfl (any_of HT_.out (by kernel_rfl)) (fun _ _ _ h => h) (Or.inl ⟨by rfl, ?_⟩) ?_ ?_
  rotate_left
  · intro w'
    go_simp
    with_reducible rfl
  rotate_left
  · simp only [Act.put, List.setIfInBounds_toArray, List.set_cons_zero, List.set_cons_succ, i64_w, i32_w]
    rfl
  refine pure_ (i := 14) (N := some 95) (v := ?_) (a' := ?_) #[true, true, true, true, false, true, true, false, true, true, false, true, true, false, true, false, false, false, false, false, false, false, false, false] rfl rfl (any_of HT_.out (by kernel_rfl)) (fun _ _ _ h => h) (Or.inl ⟨by rfl, ?_⟩) ?_ ?_
  rotate_left
  · intro w'
    go_simp
    with_reducible rfl
  rotate_left
  · simp only [Act.put, List.setIfInBounds_toArray, List.set_cons_zero, List.set_cons_succ, i64_w, i32_w]
    rfl
  refine pure_ (i := 15) (N := some 96) (v := ?_) (a' := ?_) #[true, true, true, true, false, true, true, false, true, true, false, true, true, false, true, true, false, false, false, false, false, false, false, false] rfl rfl (any_of HT_.out (by kernel_rfl)) (fun _ _ _ h => h) (Or.inl ⟨by rfl, ?_⟩) ?_ ?_
  rotate_left
  · intro w'
    go_simp
    with_reducible rfl
  rotate_left
  · simp only [Act.put, List.setIfInBounds_toArray, List.set_cons_zero, List.set_cons_succ, i64_w, i32_w]
    rfl
  refine take_ (i := 4) (N := some 85) (v := ?_) (a' := ?_) #[true, true, true, true, true, true, true, false, true, true, false, true, true, false, true, true, false, false, false, false, false, false, false, false] rfl rfl (take_ofW HT_.out HW_.out (by kernel_rfl)) (fun _ _ _ h => h) (Or.inl ⟨by rfl, ?_⟩) hHeld ?_ ?_
  rotate_left
  · rintro w' ⟨s0, s1, s2, s3, s4⟩
    go_simp
    with_reducible rfl
  rotate_left
  · simp only [Act.put, List.setIfInBounds_toArray, List.set_cons_zero, List.set_cons_succ, i64_w, i32_w]
    rfl
  refine take_ (i := 7) (N := some 88) (v := ?_) (a' := ?_) #[true, true, true, true, true, true, true, true, true, true, false, true, true, false, true, true, false, false, false, false, false, false, false, false] rfl rfl (take_ofW HT_.out HW_.out (by kernel_rfl)) (fun _ _ _ h => h) (Or.inl ⟨by rfl, ?_⟩) hHeld ?_ ?_
  rotate_left
  · rintro w' ⟨s0, s1, s2, s3, s4⟩
    go_simp
    with_reducible rfl
  rotate_left
  · simp only [Act.put, List.setIfInBounds_toArray, List.set_cons_zero, List.set_cons_succ, i64_w, i32_w]
    rfl
  refine take_ (i := 10) (N := some 91) (v := ?_) (a' := ?_) #[true, true, true, true, true, true, true, true, true, true, true, true, true, false, true, true, false, false, false, false, false, false, false, false] rfl rfl (take_ofW HT_.out HW_.out (by kernel_rfl)) (fun _ _ _ h => h) (Or.inl ⟨by rfl, ?_⟩) hHeld ?_ ?_
  rotate_left
  · rintro w' ⟨s0, s1, s2, s3, s4⟩
    go_simp
    with_reducible rfl
  rotate_left
  · simp only [Act.put, List.setIfInBounds_toArray, List.set_cons_zero, List.set_cons_succ, i64_w, i32_w]
    rfl
  refine take_ (i := 13) (N := some 94) (v := ?_) (a' := ?_) #[true, true, true, true, true, true, true, true, true, true, true, true, true, true, true, true, false, false, false, false, false, false, false, false] rfl rfl (take_ofW HT_.out HW_.out (by kernel_rfl)) (fun _ _ _ h => h) (Or.inl ⟨by rfl, ?_⟩) hHeld ?_ ?_
  rotate_left
  · rintro w' ⟨s0, s1, s2, s3, s4⟩
    go_simp
    with_reducible rfl
  rotate_left
  · simp only [Act.put, List.setIfInBounds_toArray, List.set_cons_zero, List.set_cons_succ, i64_w, i32_w]
    rfl
  refine take_ (i := 16) (N := some 97) (v := ?_) (a' := ?_) #[true, true, true, true, true, true, true, true, true, true, true, true, true, true, true, true, true, false, false, false, false, false, false, false] rfl rfl (take_ofW HT_.out HW_.out (by kernel_rfl)) (fun _ _ _ h => h) (Or.inl ⟨by rfl, ?_⟩) hHeld ?_ ?_
  rotate_left
  · rintro w' ⟨s0, s1, s2, s3, s4⟩
    go_simp
    with_reducible rfl
  rotate_left
  · simp only [Act.put, List.setIfInBounds_toArray, List.set_cons_zero, List.set_cons_succ, i64_w, i32_w]
    rfl
  refine pure_ (i := 17) (N := some 98) (v := ?_) (a' := ?_) #[true, true, true, true, true, true, true, true, true, true, true, true, true, true, true, true, true, true, false, false, false, false, false, false] rfl rfl (any_of HT_.out (by kernel_rfl)) (fun _ _ _ h => h) (Or.inl ⟨by rfl, ?_⟩) ?_ ?_
  rotate_left
  · intro w'
    go_simp
    with_reducible rfl
  rotate_left
  · simp only [Act.put, List.setIfInBounds_toArray, List.set_cons_zero, List.set_cons_succ, i64_w, i32_w]
    rfl
  refine pure_ (i := 18) (N := some 99) (v := ?_) (a' := ?_) #[true, true, true, true, true, true, true, true, true, true, true, true, true, true, true, true, true, true, true, false, false, false, false, false] rfl rfl (any_of HT_.out (by kernel_rfl)) (fun _ _ _ h => h) (Or.inl ⟨by rfl, ?_⟩) ?_ ?_
  rotate_left
  · intro w'
    go_simp
    with_reducible rfl
  rotate_left
  · simp only [Act.put, List.setIfInBounds_toArray, List.set_cons_zero, List.set_cons_succ, i64_w, i32_w]
    rfl
  refine one_ (i := 19) (N := some 100) #[true, true, true, true, true, true, true, true, true, true, true, true, true, true, true, true, true, true, true, true, false, false, false, false] rfl rfl (one_of HT_.out (by kernel_rfl)) (by decide) (fun K hK => ?_)
  refine event_step (v := .slice (some ⟨w2.heap.size, 0, none⟩) 1 1) (w1 := w2.alloc (.cells #[.int .i64 a, .int .i64 b, .int .i64 c, .bool true, .slice none 0 0] 57)) (by rfl) (by first | (go_simp; done) | (go_simp; rfl)) ?_
  refine hK.out _ _ ⟨pw_cell_below (below_alloc (Below.refl _ w2) (.cells #[.int .i64 a, .int .i64 b, .int .i64 c, .bool true, .slice none 0 0] 57)) ((blk_cell BK.out 0).trans rfl), pw_cell_below (below_alloc (Below.refl _ w2) (.cells #[.int .i64 a, .int .i64 b, .int .i64 c, .bool true, .slice none 0 0] 57)) (num_cell HR.out 0 a rfl), pw_cell_below (below_alloc (Below.refl _ w2) (.cells #[.int .i64 a, .int .i64 b, .int .i64 c, .bool true, .slice none 0 0] 57)) (num_cell HR.out 1 b rfl), pw_cell_below (below_alloc (Below.refl _ w2) (.cells #[.int .i64 a, .int .i64 b, .int .i64 c, .bool true, .slice none 0 0] 57)) (num_cell HR.out 2 c rfl), pw_cell_below (below_alloc (Below.refl _ w2) (.cells #[.int .i64 a, .int .i64 b, .int .i64 c, .bool true, .slice none 0 0] 57)) (num_cell HR.out 3 1 rfl)⟩ (fun hHeld => ?_)
  clear hK K
  refine norm_ (a' := ?_) ?_ ?_
  rotate_left
  · show Act.put _ (some 100) _ = _
    simp only [Act.put, List.setIfInBounds_toArray, List.set_cons_zero, List.set_cons_succ, i64_w, i32_w]
    rfl
  refine one_ (i := 20) (N := some 101) #[true, true, true, true, true, true, true, true, true, true, true, true, true, true, true, true, true, true, true, true, true, false, false, false] rfl rfl (one_of HT_.out (by kernel_rfl)) (by decide) (fun K hK => ?_)
  refine Kd.S_append_step k57q (w0 := w) base (by rfl) (.tmp 85) (.tmp 100) 33 57 (.agg #[.int .i64 0, .int .i64 0, .int .i64 0, .bool false, .slice none 0 0]) 56 (by rfl) Tryd.underlying33 info57 (by rfl) (by decide) (by omega) P ps ⟨a, b, c, true, []⟩ [.int .i64 a, .int .i64 b, .int .i64 c, .bool true, .slice none 0 0] (fun k => (okP k ∧ k < w2.heap.size) ∨ w2.heap.size ≤ k) (fun _ => False) (by rfl) (by rfl) (k57q_mkM _ _ _ ⟨a, b, c, true, []⟩ (Kd.S_nil _ _ _ _ _)) (fun _ h => h.elim) (fun k hk => Or.inr hk) (Kd.S_mono (Kd.S_bound HP.out) (fun k hk => ⟨Or.inl ⟨hk.1, hk.2.2.1⟩, fun h => h⟩)) ?aB ?aS ?aL ?_
  case aB => exact HB.out.mono HBW.out
  case aS => exact Nat.le_trans HBW.out HB.out.size
  case aL => have := HPS.out; omega
  intro P1 w3 hP1 hb1 hg1 hat1
  obtain ⟨PA, PN, PC, rfl⟩ : ∃ PA PN PC, P1 = .slice PA PN PC := by
    obtain ⟨A, c, e⟩ := Kd.S_slice hP1
    exact ⟨A, _, c, e⟩
  have n0_ := Aside0.mk (blk_grown BK.out hg1 (Kd.S_ne HP.out BK.out (by decide)))
  have n1_ := Aside0.mk (Kd.R_over' HR.out (Kd.S_typed HP.out) ne57 hg1)
  have n3_ := Aside0.mk (Kd.S_over' (Kd.S_mono (Kd.S_bound HT.out) (fun k hk => (⟨hk.1, hk.2.2.1⟩ : okT k ∧ k < w2.heap.size))) (Kd.S_typed HP.out) ne54 hg1)
  have HP1 := Aside0.mk hP1
  have HB1 := Aside0.mk hb1
  clear hP1 hb1 hg1 hat1 BK HR HP HT
  have BK := n0_
  have HR := n1_
  have HT := n3_
  clear n0_ n1_ n3_
  refine hK.out _ _ ⟨(blk_cell BK.out 0).trans rfl, num_cell HR.out 0 a rfl, num_cell HR.out 1 b rfl, num_cell HR.out 2 c rfl, num_cell HR.out 3 1 rfl⟩ (fun hHeld => ?_)
  clear hK K
  refine norm_ (a' := ?_) ?_ ?_
  rotate_left
  · show Act.put _ (some 101) _ = _
    simp only [Act.put, List.setIfInBounds_toArray, List.set_cons_zero, List.set_cons_succ, i64_w, i32_w]
    rfl
  refine pure_ (i := 21) (N := some 102) (v := ?_) (a' := ?_) #[true, true, true, true, true, true, true, true, true, true, true, true, true, true, true, true, true, true, true, true, true, true, false, false] rfl rfl (any_of HT_.out (by kernel_rfl)) (fun _ _ _ h => h) (Or.inl ⟨by rfl, ?_⟩) ?_ ?_
  rotate_left
  · intro w'
    go_simp
    with_reducible rfl
  rotate_left
  · simp only [Act.put, List.setIfInBounds_toArray, List.set_cons_zero, List.set_cons_succ, i64_w, i32_w]
    rfl
  refine pure_ (i := 22) (N := some 103) (v := ?_) (a' := ?_) #[true, true, true, true, true, true, true, true, true, true, true, true, true, true, true, true, true, true, true, true, true, true, true, false] rfl rfl (any_of HT_.out (by kernel_rfl)) (fun _ _ _ h => h) (Or.inl ⟨by rfl, ?_⟩) ?_ ?_
  rotate_left
  · intro w'
    go_simp
    with_reducible rfl
  rotate_left
  · simp only [Act.put, List.setIfInBounds_toArray, List.set_cons_zero, List.set_cons_succ, i64_w, i32_w]
    rfl
  have z0 := blk_frozen BK.out 0
  have z1 : w3.cell? ⟨g, 0, none⟩ = some P := (blk_cell BK.out 0).trans rfl
  refine last_ (i := 23) (N := none) #[true, true, true, true, true, true, true, true, true, true, true, true, true, true, true, true, true, true, true, true, true, true, true, true] rfl rfl (one_of HT_.out (by kernel_rfl)) (by decide) (fun K hK => ?_)
  refine store_step (w1 := w3.setCell ⟨g, 0, none⟩ (.slice PA PN PC)) (by rfl) rfl (by first | (go_simp; done) | (go_simp; rfl)) ?_
  refine hK.out _ _ ?_
  clear hK K
  refine done_ (done_of HT_.out (by kernel_rfl)) ?_
  have n0_ := Aside0.mk (blk_put (cs := #[P, T]) (cs' := #[.slice PA PN PC, T]) BK.out 0 (.slice PA PN PC) rfl)
  have n1_ := Aside0.mk (Kd.S_set HP1.out BK.out ne57u 0 (.slice PA PN PC))
  have n2_ := Aside0.mk (Kd.S_set HT.out BK.out ne54u 0 (.slice PA PN PC))
  have n3_ : Aside0 (Fr base g w (w3.setCell ⟨g, 0, none⟩ (.slice PA PN PC))) := ⟨fr_set HB1.out 0 (.slice PA PN PC)⟩
  generalize w3.setCell ⟨g, 0, none⟩ (.slice PA PN PC) = w4 at n0_ n1_ n2_ n3_ ⊢
  go_wp2
  go_returns
  exact ⟨rfl, ⟨_, T, _, _, n0_.out, n1_.out, n2_.out, fun k h1 h2 => h1.elim (fun h => HAP.out k h.1 h2.1) (fun h => Nat.lt_irrefl _ (Nat.lt_of_lt_of_le h2.2 h))⟩, n3_.out⟩
end Go.Proofs.YtfkfgjmhcfagkaaDoor.Given
end
section
namespace Go.Proofs.YtfkfgjmhcfagkaaDoor.Given
open Go.RowKit Go.Proofs.YtfkfgjmhcfagkaaDoorW.PrintWords Go.Proofs.YtfkfgjmhcfagkaaDoorW.PrintLast Go.Proofs.YtfkfgjmhcfagkaaDoorW.PrintMore Go.Proofs.YtfkfgjmhcfagkaaDoor.Print
set_option linter.unusedVariables false
set_option linter.unusedSimpArgs false
theorem toList_ne {a b : ByteArray} (h : a ≠ b) : (a.toList == b.toList) = false := by
  rw [beq_eq_false_iff_ne]
  intro e
  apply h
  rw [Lib.toList_data, Lib.toList_data] at e
  cases a with | mk da => cases b with | mk db =>
  have : da = db := Array.ext' e
  rw [this]
theorem tw_list : typeWord.toList = [116, 121, 112, 101] := by kernel_rfl
theorem pw_list : progWord.toList = [112, 114, 111, 103] := by kernel_rfl
theorem ne_type {wd : ByteArray} (h : wd ≠ typeWord) : (wd.toList == [116, 121, 112, 101]) = false := tw_list ▸ toList_ne h
theorem ne_prog {wd : ByteArray} (h : wd ≠ progWord) : (wd.toList == [112, 114, 111, 103]) = false := pw_list ▸ toList_ne h
def addLast (ps : List S57) (i : S28) : Option (List S57) := match ps.getLast? with
  | none => none
  | some p => some (ps.dropLast ++ [⟨p.f0, p.f1, p.f2, p.f3, p.f4 ++ [i]⟩])
def addOf (ps : List S57) (ts : List S54) (s : ByteArray) : Option (List S57 × List S54) :=
  match readOf s with
  | none => none
  | some (wd, n) =>
    if wd = typeWord then match n with
      | a :: b :: r => if (b = 0 ∨ b = 1) ∧ ps.isEmpty = true then some (ps, ts ++ [⟨a, r, b == 1⟩]) else none
      | _ => none
    else match decide (wd = progWord), n with
      | true, [a, b, c, d] => if d = 0 ∨ d = 1 then some (ps ++ [⟨a, b, c, d == 1, []⟩], ts) else none
      | _, n => match oneOf wd n with
        | none => none
        | some i => (addLast ps i).map fun ps => (ps, ts)
def Few (K : Nat) (ps : List S57) (ts : List S54) : Prop := ps.length ≤ K ∧ ts.length ≤ K ∧ ∀ p ∈ ps, p.f4.length ≤ K
def AddSays (w : World) (base g : Nat) (r : Option (List S57 × List S54)) (e : Ending) (w' : World) : Prop := match r with
  | some u => e = .returned (.bool true) ∧ UnitAt w' base g u.1 u.2 ∧ Fr base g w w'
  | none => e = .returned (.bool false) ∧ Below w.heap.size w w'
theorem unit_box {w : World} {base g : Nat} {ps : List S57} {ts : List S54} (h : UnitAt w base g ps ts) : ∃ A c T, w.heap[g]? = some (.cells #[.slice A ps.length c, T] 36 (0, 0)) := by
  obtain ⟨P, T, okP, okT, hb, hP, _, _⟩ := h
  obtain ⟨A, c, rfl⟩ := Kd.S_slice hP
  exact ⟨A, c, T, hb⟩
theorem add_any (K base g : Nat) (ps : List S57) (ts : List S54) (s : ByteArray) (w : World) (hL : LW w) (hs : s.size < 4294967281) (hU : UnitAt w base g ps ts) (hgb : g < base) (hbw : base ≤ w.heap.size) (hK : Few K ps ts) (hK2 : K + 1 ≤ 4294967296) :
    Calls Tryd.prog 49 #[.pointer (some ⟨g, 0, none⟩), .string s] w (AddSays w base g (addOf ps ts s)) := by
  unfold addOf
  cases h : readOf s with
  | none => exact (add_none _ s w hL hs h).mono fun e w' h => h
  | some x =>
    obtain ⟨wd, n⟩ := x
    by_cases ht : wd = typeWord
    · simp only [if_pos ht]
      subst ht
      match n, h with
      | [], h => exact (add_type_short _ s _ w hL hs h (by simp)).mono fun e w' h => h
      | [a], h => exact (add_type_short _ s _ w hL hs h (by simp)).mono fun e w' h => h
      | a :: b :: r, h =>
        by_cases hb : b = 0 ∨ b = 1
        · cases ps with
          | nil =>
            simp only [List.isEmpty_nil, and_true, if_pos hb]
            rcases hb with rfl | rfl
            · exact (add_type0 base g ts s a r w hL hs h hU hgb hbw (by have := hK.2.1; omega)).mono fun e w' h => h
            · exact (add_type1 base g ts s a r w hL hs h hU hgb hbw (by have := hK.2.1; omega)).mono fun e w' h => h
          | cons p q =>
            obtain ⟨A, c, T, hbox⟩ := unit_box hU
            simp only [List.isEmpty_cons, and_false, Bool.false_eq_true, if_false]
            exact (add_type_late g T A _ c s a b r w hL hs h hb hbox (by simp)).mono fun e w' h => h
        · simp only [hb, false_and, if_false]
          exact (add_type_flag _ s a b r w hL hs h (fun h => hb (Or.inl h)) (fun h => hb (Or.inr h))).mono fun e w' h => h
    · simp only [if_neg ht]
      have hins : ∀ (hq : ¬ (wd = progWord ∧ n.length = 4)), Calls Tryd.prog 49 #[.pointer (some ⟨g, 0, none⟩), .string s] w (AddSays w base g (match oneOf wd n with
        | none => none
        | some i => (addLast ps i).map fun ps => (ps, ts))) := by
        intro hq
        cases hn : oneOf wd n with
        | none =>
          by_cases hp : wd = progWord
          · exact (add_bad2 _ s wd n w hL hs h hn hp (fun hl => hq ⟨hp, hl⟩)).mono fun e w' h => h
          · exact (add_bad _ s wd n w hL hs h hn (ne_type ht) (ne_prog hp)).mono fun e w' h => h
        | some i =>
          simp only
          unfold addLast
          rcases List.eq_nil_or_concat ps with rfl | ⟨q, p, rfl⟩
          · obtain ⟨A, c, T, hbox⟩ := unit_box hU
            by_cases hp : wd = progWord
            · exact (add_early2 g A c T s wd n i w hL hs h hn hp (fun hl => hq ⟨hp, hl⟩) hbox).mono fun e w' h => h
            · exact (add_early1 g A c T s wd n i w hL hs h hn (ne_type ht) (ne_prog hp) hbox).mono fun e w' h => h
          · rw [List.concat_eq_append] at hU hK ⊢
            have e1 : (q ++ [p]).getLast? = some p := by simp
            have e2 : (q ++ [p]).dropLast = q := by simp
            rw [e1, e2]
            have l1 := hK.1
            have l2 := hK.2.2 p (by simp)
            rw [List.length_append] at l1
            simp only [List.length_cons, List.length_nil] at l1
            by_cases hp : wd = progWord
            · exact (add_ins2 base g q p ts s wd n i w hL hs h hn hp (fun hl => hq ⟨hp, hl⟩) hU hgb hbw (by omega) (by omega)).mono fun e w' h => h
            · exact (add_ins1 base g q p ts s wd n i w hL hs h hn (ne_type ht) (ne_prog hp) hU hgb hbw (by omega) (by omega)).mono fun e w' h => h
      by_cases hp : wd = progWord
      · simp only [hp, decide_true]
        match n, h, hins with
        | [a, b, c, d], h, _ =>
          by_cases hd : d = 0 ∨ d = 1
          · simp only [if_pos hd]
            rcases hd with rfl | rfl
            · exact (add_prog0 base g ps ts s a b c w hL hs (hp ▸ h) hU hgb hbw (by have := hK.1; omega)).mono fun e w' h => h
            · exact (add_prog1 base g ps ts s a b c w hL hs (hp ▸ h) hU hgb hbw (by have := hK.1; omega)).mono fun e w' h => h
          · simp only [if_neg hd]
            exact (add_prog_flag _ s a b c d w hL hs (hp ▸ h) (fun h => hd (Or.inl h)) (fun h => hd (Or.inr h))).mono fun e w' h => h
        | [], h, hins => exact hp ▸ hins (fun h => by simp at h)
        | [a], h, hins => exact hp ▸ hins (fun h => by simp at h)
        | [a, b], h, hins => exact hp ▸ hins (fun h => by simp at h)
        | [a, b, c], h, hins => exact hp ▸ hins (fun h => by simp at h)
        | a :: b :: c :: d :: e :: r, h, hins => exact hp ▸ hins (fun h => by simp at h)
      · simp only [hp, decide_false]
        exact hins (fun h => hp h.1)
end Go.Proofs.YtfkfgjmhcfagkaaDoor.Given
end
section
namespace Go.Proofs.YtfkfgjmhcfagkaaDoor.Given
open Go.RowKit Go.Proofs.YtfkfgjmhcfagkaaDoorW.PrintWords Go.Proofs.YtfkfgjmhcfagkaaDoorW.PrintLast Go.Proofs.YtfkfgjmhcfagkaaDoorW.PrintMore Go.Proofs.YtfkfgjmhcfagkaaDoor.Print
set_option linter.unusedVariables false
set_option linter.unusedSimpArgs false
theorem cut_at (s a b : ByteArray) (f : Bool) (w : World) (hL : LW w) (hs : s.size < 4294967281) (h : Lib.cut s.data.toList [10] = (a.data.toList, b.data.toList, f)) :
    Calls Tryd.prog 48 #[.string s, .string ⟨#[10]⟩] w fun e w' => e = .returned (.tuple #[.string a, .string b, .bool f]) ∧ Below w.heap.size w w' := by
  obtain ⟨m, hm⟩ := hL.2.1
  refine (Tryd.strings_Cut s ⟨#[10]⟩ m w hs hm).mono ?_
  rintro e w' ⟨rfl, n, rfl⟩
  refine ⟨?_, pw_below_drewN (Below.refl _ _) n⟩
  rw [show (⟨#[10]⟩ : ByteArray).data.toList = [10] from rfl, h]
theorem sh_cut1 : Lib.cut ((⟨#[112, 114, 111, 103, 32, 48, 32, 48, 32, 48, 32, 48, 10, 114, 101, 116, 32, 49, 10]⟩ : ByteArray)).data.toList [10] = (((⟨#[112, 114, 111, 103, 32, 48, 32, 48, 32, 48, 32, 48]⟩ : ByteArray)).data.toList, ((⟨#[114, 101, 116, 32, 49, 10]⟩ : ByteArray)).data.toList, true) := by decide +kernel
theorem sh_cut2 : Lib.cut ((⟨#[114, 101, 116, 32, 49, 10]⟩ : ByteArray)).data.toList [10] = (((⟨#[114, 101, 116, 32, 49]⟩ : ByteArray)).data.toList, (⟨#[]⟩ : ByteArray).data.toList, true) := by decide +kernel
theorem sh_read1 : readOf (⟨#[112, 114, 111, 103, 32, 48, 32, 48, 32, 48, 32, 48]⟩ : ByteArray) = some (progWord, [0, 0, 0, 0]) := by kernel_rfl
theorem sh_read2 : readOf (⟨#[114, 101, 116, 32, 49]⟩ : ByteArray) = some (⟨#[114, 101, 116]⟩, [1]) := by kernel_rfl
theorem sh_one : oneOf ⟨#[114, 101, 116]⟩ [1] = none := by kernel_rfl
theorem unit_new {w : World} {base g : Nat} (h : w.heap[g]? = some (.cells #[.slice none 0 0, .slice none 0 0] 36 (0, 0))) : UnitAt w base g [] [] := ⟨_, _, fun _ => False, fun _ => False, h, Kd.S_nil _ _ _ _ _, Kd.S_nil _ _ _ _ _, fun _ h => h.elim⟩
theorem LW.fr {base g : Nat} {w w1 w2 : World} (h : LW w) (hb : Below w.heap.size w w1) (hf : Fr base g w1 w2) (h1 : w.heap.size ≤ base) (h2 : w.heap.size ≤ g) : LW w2 := h.below (hb.trans (hf.below h1 h2))
set_option maxRecDepth 100000 in
set_option maxHeartbeats 4000000 in
theorem parse_shown (w : World) (hL : LW w) : Calls Tryd.prog 26 #[.string (⟨#[112, 114, 111, 103, 32, 48, 32, 48, 32, 48, 32, 48, 10, 114, 101, 116, 32, 49, 10]⟩ : ByteArray)] w fun e w' => e = .returned (.tuple #[.agg #[.slice none 0 0, .slice none 0 0], .int .i64 2, .int .i64 80]) ∧ Below w.heap.size w w' := by
  have HL := Aside0.mk hL
  clear hL
  go_enter Tryd.func26, Tryd.ntmps26
  go_wp2_with (first
    | ((with_reducible refine gate_dst (N := 2) rfl ?_); refine box_event ?hg (N := 2) ?hd (cs := #[.slice none 0 0, .slice none 0 0]) (t := 36) ?hr ?_; (case hd => rfl); (case hg => rfl); (case hr => first | (go_simp; done) | (go_simp; rfl)); intro g2 hg w2 hbox hb; have BK2 := Aside0.mk hbox; have HB := Aside0.mk hb; have GE2 := Aside0.mk (Nat.le_of_eq hg.symm); clear hg hbox hb)
    | ((with_reducible refine gate_dst (N := 5) rfl ?_); refine box_event ?hg (N := 5) ?hd (cs := #[.slice none 0 0, .slice none 0 0]) (t := 36) ?hr ?_; (case hd => rfl); (case hg => rfl); (case hr => first | (go_simp; done) | (go_simp; rfl)); intro g5 hg w3 hbox hb; have BK5 := Aside0.mk hbox; have GE5 := Aside0.mk (show w.heap.size ≤ g5 by rw [hg]; exact HB.out.size); have NE := Aside0.mk (show g2 ≠ g5 by rw [hg]; exact Nat.ne_of_lt (blk_lt BK2.out)); have n1_ := Aside0.mk (blk_below BK2.out hb); have n3_ := Aside0.mk (below_then HB.out HB.out.size hb); clear BK2 HB; have BK2 := n1_; have HB := n3_; clear n1_ n3_ hg hbox hb))
  refine wp_loop_rounds 2 ?_
  rw [rounds_succ]
  have GB := Aside0.mk (blk_lt BK5.out)
  have G2 := Aside0.mk (blk_lt BK2.out)
  have SW := Aside0.mk HB.out.size
  go_wp2_with (first
    | (go_at_call 48; refine (cut_at _ (⟨#[112, 114, 111, 103, 32, 48, 32, 48, 32, 48, 32, 48]⟩ : ByteArray) (⟨#[114, 101, 116, 32, 49, 10]⟩ : ByteArray) true _ (HL.out.below HB.out) (by decide) sh_cut1).mono ?_; rintro e w4 ⟨rfl, hb⟩; have n1_ := Aside0.mk (blk_below BK2.out hb); have n2_ := Aside0.mk (blk_below BK5.out hb); have n3_ := Aside0.mk (below_then HB.out HB.out.size hb); have SZ := Aside0.mk hb.size; clear BK2 BK5 HB hb; have BK2 := n1_; have BK5 := n2_; have HB := n3_; clear n1_ n2_ n3_)
    | (go_at_call 49; refine (add_prog0 w3.heap.size g5 [] [] (⟨#[112, 114, 111, 103, 32, 48, 32, 48, 32, 48, 32, 48]⟩ : ByteArray) 0 0 0 _ (HL.out.below HB.out) (by decide) sh_read1 (unit_new BK5.out) GB.out SZ.out (by decide)).mono ?_; rintro e w5 ⟨rfl, hU, hF⟩; have n1_ := Aside0.mk ((hF.block g2 G2.out NE.out).trans BK2.out); have n3_ := Aside0.mk (HB.out.trans (hF.below SW.out GE5.out)); clear BK2 BK5 HB hU hF; have BK2 := n1_; have HB := n3_; clear n1_ n3_))
  rw [rounds_succ]
  clear GB SZ
  go_wp2_with (first
    | (go_at_call 48; refine (cut_at _ (⟨#[114, 101, 116, 32, 49]⟩ : ByteArray) ⟨#[]⟩ true _ (HL.out.below HB.out) (by decide) sh_cut2).mono ?_; rintro e w6 ⟨rfl, hb⟩; have n1_ := Aside0.mk (blk_below BK2.out hb); have n3_ := Aside0.mk (below_then HB.out HB.out.size hb); clear BK2 HB hb; have BK2 := n1_; have HB := n3_; clear n1_ n3_)
    | (go_at_call 49; refine (add_bad _ (⟨#[114, 101, 116, 32, 49]⟩ : ByteArray) _ _ _ (HL.out.below HB.out) (by decide) sh_read2 sh_one (by kernel_rfl) (by kernel_rfl)).mono ?_; rintro e w7 ⟨rfl, hb⟩; have n1_ := Aside0.mk (blk_below BK2.out hb); have n3_ := Aside0.mk (below_then HB.out HB.out.size hb); clear BK2 HB hb; have BK2 := n1_; have HB := n3_; clear n1_ n3_)
    | (refine wpList_store_row rfl 36 (.tmp 2) (.tmp 27) rfl g2 #[.slice none 0 0, .slice none 0 0] rfl rfl 36 _ BK2.out (by kernel_rfl) rfl (by kernel_rfl) ?_; have n9_ : Aside0 ((w7.setRow g2 #[.slice none 0 0, .slice none 0 0]).heap[g2]? = some (.cells #[.slice none 0 0, .slice none 0 0] 36 (0, 0))) := ⟨setRow_heap _ _ _ _ _ _ BK2.out⟩; have n8_ := Aside0.mk (below_setRow HB.out GE2.out #[.slice none 0 0, .slice none 0 0]); generalize w7.setRow g2 #[.slice none 0 0, .slice none 0 0] = w8 at n9_ n8_ ⊢))
  refine bodyPost_ret (results_ctt rfl _ _ g2 36 #[.slice none 0 0, .slice none 0 0] (0, 0) _ rfl n9_.out Tryd.underlying36 rfl (by kernel_rfl)) rfl ?_
  exact ⟨rfl, n8_.out⟩
end Go.Proofs.YtfkfgjmhcfagkaaDoor.Given
end
section
namespace Go.Proofs.YtfkfgjmhcfagkaaDoor.Given
open Go.RowKit Go.Proofs.YtfkfgjmhcfagkaaDoorW.PrintWords Go.Proofs.YtfkfgjmhcfagkaaDoorW.PrintLast Go.Proofs.YtfkfgjmhcfagkaaDoorW.PrintMore Go.Proofs.YtfkfgjmhcfagkaaDoor.Print
set_option linter.unusedVariables false
set_option linter.unusedSimpArgs false
def parseRun : Nat → Nat → List S57 → List S54 → List UInt8 → List S57 × List S54 × Nat × Int
  | 0, at_, ps, ts, t => ([], [], at_, 80)
  | k + 1, at_, ps, ts, t =>
    if t.isEmpty = true then (ps, ts, 0, 0)
    else if (Lib.cut t [10]).2.2 = true then match addOf ps ts ⟨(Lib.cut t [10]).1.toArray⟩ with
      | some u => parseRun k (at_ + 1) u.1 u.2 (Lib.cut t [10]).2.1
      | none => ([], [], at_, 80)
    else ([], [], at_, 80)
def parseOf (text : ByteArray) : List S57 × List S54 × Nat × Int := parseRun (text.size + 1) 1 [] [] text.data.toList
theorem cut_rest (t : List UInt8) (ht : t.isEmpty = false) (h : (Lib.cut t [10]).2.2 = true) : (Lib.cut t [10]).2.1.length + 1 ≤ t.length ∧ (Lib.cut t [10]).1.length ≤ t.length := by
  unfold Lib.cut at h ⊢
  cases t with
  | nil => cases ht
  | cons a r =>
    split
    · simp only [List.length_drop, List.length_take, List.length_cons, List.length_nil]
      omega
    · rename_i hn
      rw [if_neg hn] at h
      cases h
theorem parse_fuel : ∀ (k k' at_ : Nat) (ps : List S57) (ts : List S54) (t : List UInt8), t.length < k → t.length < k' → parseRun k at_ ps ts t = parseRun k' at_ ps ts t
  | 0, _, _, _, _, _, h, _ => absurd h (Nat.not_lt_zero _)
  | k + 1, 0, _, _, _, _, _, h => absurd h (Nat.not_lt_zero _)
  | k + 1, k' + 1, at_, ps, ts, t, h1, h2 => by
    unfold parseRun
    by_cases he : t.isEmpty = true
    · rw [if_pos he, if_pos he]
    · rw [if_neg he, if_neg he]
      by_cases hf : (Lib.cut t [10]).2.2 = true
      · rw [if_pos hf, if_pos hf]
        have hl := (cut_rest t (by simpa using he) hf).1
        cases addOf ps ts ⟨(Lib.cut t [10]).1.toArray⟩ with
        | none => rfl
        | some u => exact parse_fuel k k' _ _ _ _ (by omega) (by omega)
      · rw [if_neg hf, if_neg hf]
theorem few_add {K : Nat} {ps : List S57} {ts : List S54} {s : ByteArray} {u : List S57 × List S54} (hK : Few K ps ts) (h : addOf ps ts s = some u) : Few (K + 1) u.1 u.2 := by
  have hKs : Few (K + 1) ps ts := ⟨by have := hK.1; omega, by have := hK.2.1; omega, fun p hp => by have := hK.2.2 p hp; omega⟩
  have hlast : ∀ (wd : ByteArray) (n : List Int), (match oneOf wd n with | none => none | some i => (addLast ps i).map fun ps => (ps, ts)) = some u → Few (K + 1) u.1 u.2 := by
    intro wd n h
    cases hn : oneOf wd n with
    | none => rw [hn] at h; cases h
    | some i =>
      rw [hn] at h
      simp only at h
      unfold addLast at h
      rcases List.eq_nil_or_concat ps with rfl | ⟨q, p, rfl⟩
      · cases h
      · rw [List.concat_eq_append] at h hK
        have e1 : (q ++ [p]).getLast? = some p := by simp
        have e2 : (q ++ [p]).dropLast = q := by simp
        rw [e1, e2] at h
        injection h with h
        subst h
        have l1 := hK.1
        rw [List.length_append] at l1
        simp only [List.length_cons, List.length_nil] at l1
        refine ⟨by simp only [List.length_append, List.length_cons, List.length_nil]; omega, (show ts.length ≤ K + 1 by have := hK.2.1; omega), fun x hx => ?_⟩
        simp only [List.mem_append, List.mem_singleton] at hx
        rcases hx with hx | rfl
        · have := hK.2.2 x (by simp [hx])
          omega
        · have := hK.2.2 p (by simp)
          simp only [List.length_append, List.length_cons, List.length_nil]
          omega
  unfold addOf at h
  cases hr : readOf s with
  | none => rw [hr] at h; cases h
  | some x =>
    obtain ⟨wd, n⟩ := x
    rw [hr] at h
    simp only at h
    by_cases ht : wd = typeWord
    · rw [if_pos ht] at h
      match n, h with
      | a :: b :: r, h =>
        simp only at h
        split at h
        · injection h with h
          subst h
          exact ⟨hKs.1, by simp only [List.length_append, List.length_cons, List.length_nil]; have := hK.2.1; omega, hKs.2.2⟩
        · cases h
      | [], h => cases h
      | [a], h => cases h
    · rw [if_neg ht] at h
      by_cases hp : wd = progWord
      · simp only [hp, decide_true] at h
        match n, h with
        | [a, b, c, d], h =>
          simp only at h
          split at h
          · injection h with h
            subst h
            refine ⟨by simp only [List.length_append, List.length_cons, List.length_nil]; have := hK.1; omega, hKs.2.1, fun x hx => ?_⟩
            simp only [List.mem_append, List.mem_singleton] at hx
            rcases hx with hx | rfl
            · exact hKs.2.2 x hx
            · exact Nat.zero_le _
          · cases h
        | [], h => exact hlast _ _ h
        | [a], h => exact hlast _ _ h
        | [a, b], h => exact hlast _ _ h
        | [a, b, c], h => exact hlast _ _ h
        | a :: b :: c :: d :: e :: r, h => exact hlast _ _ h
      · simp only [hp, decide_false] at h
        exact hlast _ _ h
theorem S_setRow {α : Type} {d : Kd α} {e base g t : Nat} {ok : Nat → Prop} {w : World} {v : Value} {xs : List α} {cs cs' : Array Value} (h : Kd.S d e w base ok v xs) (hb : w.heap[g]? = some (.cells cs t (0, 0))) (ht : ∀ q, q ∈ e :: d.E → q ≠ t) : Kd.S d e (w.setRow g cs') base ok v xs :=
  Kd.S_mono (Kd.S_step (Kd.S_types h hb ht) (fun k hk _ => setRow_other _ _ _ _ hk.2)) (fun _ hk => hk.1)
theorem unit_below {w w' : World} {base g : Nat} {ps : List S57} {ts : List S54} (h : UnitAt w base g ps ts) (hb : Below w.heap.size w w') : UnitAt w' base g ps ts := by
  obtain ⟨P, T, okP, okT, hk, hP, hT, hap⟩ := h
  exact ⟨P, T, okP, okT, blk_below hk hb, Kd.S_below hP hb, Kd.S_below hT hb, hap⟩
def ParseSays (w : World) (r : List S57 × List S54 × Nat × Int) (e : Ending) (w' : World) : Prop :=
  ∃ P T okP okT, e = .returned (.tuple #[.agg #[P, T], .int .i64 r.2.2.1, .int .i64 r.2.2.2]) ∧ Kd.S k57q 57 w' w.heap.size okP P r.1 ∧ Kd.S k54q 54 w' w.heap.size okT T r.2.1 ∧ (∀ k, okP k → okT k → False) ∧ Below w.heap.size w w'
set_option maxRecDepth 100000 in
set_option maxHeartbeats 8000000 in
theorem parse_any (text : ByteArray) (w : World) (hL : LW w) (hs : text.size < 4294967281) : Calls Tryd.prog 26 #[.string text] w (ParseSays w (parseOf text)) := by
  have hu36 := Tryd.underlying36
  have HL := Aside0.mk hL
  have HS := Aside0.mk hs
  clear hL hs
  go_enter Tryd.func26, Tryd.ntmps26
  go_wp2_with (first
    | ((with_reducible refine gate_dst (N := 2) rfl ?_); refine box_event ?hg (N := 2) ?hd (cs := #[.slice none 0 0, .slice none 0 0]) (t := 36) ?hr ?_; (case hd => rfl); (case hg => rfl); (case hr => first | (go_simp; done) | (go_simp; rfl)); intro g2 hg w2 hbox hb; have BK2 := Aside0.mk hbox; have HB := Aside0.mk hb; have GE2 := Aside0.mk (Nat.le_of_eq hg.symm); clear hg hbox hb)
    | ((with_reducible refine gate_dst (N := 5) rfl ?_); refine box_event ?hg (N := 5) ?hd (cs := #[.slice none 0 0, .slice none 0 0]) (t := 36) ?hr ?_; (case hd => rfl); (case hg => rfl); (case hr => first | (go_simp; done) | (go_simp; rfl)); intro g5 hg w3 hbox hb; have BK5 := Aside0.mk hbox; have GE5 := Aside0.mk (show w.heap.size ≤ g5 by rw [hg]; exact HB.out.size); have NE := Aside0.mk (show g2 ≠ g5 by rw [hg]; exact Nat.ne_of_lt (blk_lt BK2.out)); have n1_ := Aside0.mk (blk_below BK2.out hb); have n3_ := Aside0.mk (below_then HB.out HB.out.size hb); clear BK2 HB; have BK2 := n1_; have HB := n3_; clear n1_ n3_ hg hbox hb))
  have GB := Aside0.mk (blk_lt BK5.out)
  have G2 := Aside0.mk (blk_lt BK2.out)
  have SW := Aside0.mk HB.out.size
  go_loopw [0, 6] (fun v0 v6 wr => ∃ (t : ByteArray) (j : Nat) (ps : List S57) (ts : List S54), v0 = .string t ∧ v6 = .int .i64 ((j : Int) + 1) ∧ t.size + j ≤ text.size ∧ Aside0 (Few j ps ts) ∧ Aside0 (parseOf text = parseRun (t.size + 1) (j + 1) ps ts t.data.toList) ∧ Aside0 (UnitAt wr w3.heap.size g5 ps ts) ∧ Aside0 (wr.heap[g2]? = some (.cells #[.slice none 0 0, .slice none 0 0] 36 (0, 0))) ∧ Aside0 (Below w.heap.size w wr) ∧ Aside0 (w3.heap.size ≤ wr.heap.size)) (fun v0 _ _ => match v0 with | .string t => t.size | _ => 0)
  case atStart => exact ⟨text, 0, [], [], rfl, rfl, Nat.le_refl _, ⟨⟨Nat.le_refl _, Nat.le_refl _, fun p hp => by cases hp⟩⟩, ⟨rfl⟩, ⟨unit_new BK5.out⟩, BK2, HB, ⟨Nat.le_refl _⟩⟩
  case round =>
    clear BK2 HB BK5
    obtain ⟨t, j, ps, ts, rfl, rfl, hj, HF, HP, HU, BK2, HB, HZ⟩ := hrel
    by_cases he : t.data.toList.isEmpty = true
    · have he' : t.toList.isEmpty = true := by rw [Lib.toList_data]; exact he
      replace HP : Aside0 (parseOf text = (ps, ts, 0, 0)) := ⟨by rw [HP.out, parseRun, if_pos he]⟩
      obtain ⟨P, T, okP, okT, hb5, hP, hT, hap⟩ := HU.out
      obtain ⟨PA, PC, rfl⟩ := Kd.S_slice hP
      obtain ⟨TA, TC, rfl⟩ := Kd.S_slice hT
      have BK5 := Aside0.mk hb5
      have HPP := Aside0.mk hP
      have HTT := Aside0.mk hT
      have HAP := Aside0.mk hap
      clear hb5 hP hT hap HU
      have y0 : wr.cell? ⟨g5, 0, none⟩ = some (.slice PA ps.length PC) := (blk_cell BK5.out 0).trans rfl
      have y1 : wr.cell? ⟨g5, 1, none⟩ = some (.slice TA ts.length TC) := (blk_cell BK5.out 1).trans rfl
      go_wp2_with (refine wpList_store_row rfl 36 (.tmp 2) (.tmp 30) rfl g2 #[.slice PA ps.length PC, .slice TA ts.length TC] rfl rfl 36 _ BK2.out (by kernel_rfl) rfl (by kernel_rfl) ?_; have n9_ : Aside0 ((wr.setRow g2 #[.slice PA ps.length PC, .slice TA ts.length TC]).heap[g2]? = some (.cells #[.slice PA ps.length PC, .slice TA ts.length TC] 36 (0, 0))) := ⟨setRow_heap _ _ _ _ _ _ BK2.out⟩; have n8_ := Aside0.mk (below_setRow HB.out GE2.out #[.slice PA ps.length PC, .slice TA ts.length TC]); have n7_ := Aside0.mk (S_setRow HPP.out BK2.out ne57u (cs' := #[.slice PA ps.length PC, .slice TA ts.length TC])); have n6_ := Aside0.mk (S_setRow HTT.out BK2.out ne54u (cs' := #[.slice PA ps.length PC, .slice TA ts.length TC])); generalize wr.setRow g2 #[.slice PA ps.length PC, .slice TA ts.length TC] = wz at n9_ n8_ n7_ n6_ ⊢)
      refine bodyPost_ret (results_ctt rfl _ _ g2 36 #[.slice PA ps.length PC, .slice TA ts.length TC] (0, 0) _ rfl n9_.out Tryd.underlying36 rfl (by kernel_rfl)) rfl ?_
      rw [HP.out]
      exact ⟨_, _, okP, okT, rfl, Kd.S_lower n7_.out SW.out, Kd.S_lower n6_.out SW.out, HAP.out, n8_.out⟩
    have he1 : t.data.toList.isEmpty = false := by simpa using he
    have he' : t.toList.isEmpty = false := by rw [Lib.toList_data]; exact he1
    have HTS : Aside0 (t.size < 4294967281) := ⟨by have := HS.out; omega⟩
    have HJ : Aside0 (t.size + j ≤ text.size) := ⟨hj⟩
    by_cases hf : (Lib.cut t.data.toList [10]).2.2 = true
    · have HCT : Aside0 (Lib.cut t.data.toList [10] = ((⟨(Lib.cut t.data.toList [10]).1.toArray⟩ : ByteArray).data.toList, (⟨(Lib.cut t.data.toList [10]).2.1.toArray⟩ : ByteArray).data.toList, true)) := ⟨by rw [← hf]⟩
      have HCR := Aside0.mk (cut_rest t.data.toList he1 hf)
      have HLS : Aside0 ((⟨(Lib.cut t.data.toList [10]).1.toArray⟩ : ByteArray).size < 4294967281) := ⟨by
        have h1 := HCR.out.2
        have h2 := HTS.out
        show (Lib.cut t.data.toList [10]).1.toArray.size < 4294967281
        rw [List.size_toArray]
        have h3 : t.data.toList.length = t.size := by rw [Array.length_toList]; rfl
        omega⟩
      have HP2 : Aside0 (parseOf text = match addOf ps ts ⟨(Lib.cut t.data.toList [10]).1.toArray⟩ with
        | some u => parseRun t.size (j + 1 + 1) u.1 u.2 (Lib.cut t.data.toList [10]).2.1
        | none => ([], [], j + 1, 80)) := ⟨by rw [HP.out, parseRun, if_neg he, if_pos hf]⟩
      clear hf HP
      cases hadd : addOf ps ts ⟨(Lib.cut t.data.toList [10]).1.toArray⟩ with
      | none =>
        have HADD := Aside0.mk hadd
        replace HP2 : Aside0 (parseOf text = ([], [], j + 1, 80)) := ⟨by rw [HP2.out, HADD.out]⟩
        have HP := HP2
        clear hadd
        go_wp2_with (first
          | (go_at_call 48; refine (cut_at t ⟨(Lib.cut t.data.toList [10]).1.toArray⟩ ⟨(Lib.cut t.data.toList [10]).2.1.toArray⟩ true _ (HL.out.below HB.out) HTS.out HCT.out).mono ?_; rintro e w4 ⟨rfl, hb⟩; have n1_ := Aside0.mk (blk_below BK2.out hb); have n3_ := Aside0.mk (below_then HB.out HB.out.size hb); have n4_ := Aside0.mk (unit_below HU.out hb); have n5_ := Aside0.mk (Nat.le_trans HZ.out hb.size); clear BK2 HB HU HZ hb; have BK2 := n1_; have HB := n3_; have HU := n4_; have HZ := n5_; clear n1_ n3_ n4_ n5_)
          | (go_at_call 49; refine (add_any j w3.heap.size g5 ps ts ⟨(Lib.cut t.data.toList [10]).1.toArray⟩ _ (HL.out.below HB.out) HLS.out HU.out GB.out HZ.out HF.out (by have h1 := HJ.out; have h2 := HS.out; omega)).mono ?_; rw [HADD.out]; rintro e w5 ⟨rfl, hb⟩; have n1_ := Aside0.mk (blk_below BK2.out hb); have n3_ := Aside0.mk (below_then HB.out HB.out.size hb); clear BK2 HB hb; have BK2 := n1_; have HB := n3_; clear n1_ n3_)
          | (refine wpList_store_row rfl 36 (.tmp 2) (.tmp 27) rfl g2 #[.slice none 0 0, .slice none 0 0] rfl rfl 36 _ BK2.out (by kernel_rfl) rfl (by kernel_rfl) ?_; have n9_ : Aside0 ((w5.setRow g2 #[.slice none 0 0, .slice none 0 0]).heap[g2]? = some (.cells #[.slice none 0 0, .slice none 0 0] 36 (0, 0))) := ⟨setRow_heap _ _ _ _ _ _ BK2.out⟩; have n8_ := Aside0.mk (below_setRow HB.out GE2.out #[.slice none 0 0, .slice none 0 0]); generalize w5.setRow g2 #[.slice none 0 0, .slice none 0 0] = wz at n9_ n8_ ⊢))
        refine bodyPost_ret (results_ctt rfl _ _ g2 36 #[.slice none 0 0, .slice none 0 0] (0, 0) _ rfl n9_.out Tryd.underlying36 rfl (by kernel_rfl)) rfl ?_
        rw [HP.out]
        exact ⟨_, _, fun _ => False, fun _ => False, rfl, Kd.S_nil _ _ _ _ _, Kd.S_nil _ _ _ _ _, fun _ h => h.elim, n8_.out⟩
      | some u =>
        have HADD := Aside0.mk hadd
        have HF2 := Aside0.mk (few_add HF.out hadd)
        replace HP2 : Aside0 (parseOf text = parseRun t.size (j + 1 + 1) u.1 u.2 (Lib.cut t.data.toList [10]).2.1) := ⟨by rw [HP2.out, HADD.out]⟩
        clear hadd
        go_wp2_with (first
          | (go_at_call 48; refine (cut_at t ⟨(Lib.cut t.data.toList [10]).1.toArray⟩ ⟨(Lib.cut t.data.toList [10]).2.1.toArray⟩ true _ (HL.out.below HB.out) HTS.out HCT.out).mono ?_; rintro e w4 ⟨rfl, hb⟩; have n1_ := Aside0.mk (blk_below BK2.out hb); have n3_ := Aside0.mk (below_then HB.out HB.out.size hb); have n4_ := Aside0.mk (unit_below HU.out hb); have n5_ := Aside0.mk (Nat.le_trans HZ.out hb.size); clear BK2 HB HU HZ hb; have BK2 := n1_; have HB := n3_; have HU := n4_; have HZ := n5_; clear n1_ n3_ n4_ n5_)
          | (go_at_call 49; refine (add_any j w3.heap.size g5 ps ts ⟨(Lib.cut t.data.toList [10]).1.toArray⟩ _ (HL.out.below HB.out) HLS.out HU.out GB.out HZ.out HF.out (by have h1 := HJ.out; have h2 := HS.out; omega)).mono ?_; rw [HADD.out]; rintro e w5 ⟨rfl, hU, hF⟩; have n1_ := Aside0.mk ((hF.block g2 G2.out NE.out).trans BK2.out); have n3_ := Aside0.mk (HB.out.trans (hF.below SW.out GE5.out)); have n4_ := Aside0.mk hU; have n5_ := Aside0.mk (Nat.le_trans HZ.out hF.size); clear BK2 HB HU HZ hU hF; have BK2 := n1_; have HB := n3_; have HU := n4_; have HZ := n5_; clear n1_ n3_ n4_ n5_))
        go_roundw
        case rel =>
          have hsz : (⟨(Lib.cut t.data.toList [10]).2.1.toArray⟩ : ByteArray).size = (Lib.cut t.data.toList [10]).2.1.length := by
            show (Lib.cut t.data.toList [10]).2.1.toArray.size = _
            rw [List.size_toArray]
          have hts : t.data.toList.length = t.size := by rw [Array.length_toList]; rfl
          have hcr := HCR.out.1
          have h1 := HJ.out
          have h2 := HS.out
          have hwr : wrap64 ((j : Int) + 1 + 1) = ((j + 1 : Nat) : Int) + 1 := by simp only [wrap64]; omega
          refine ⟨⟨(Lib.cut t.data.toList [10]).2.1.toArray⟩, j + 1, u.1, u.2, rfl, by first | (rw [← hwr]; done) | (simp [hwr]; done) | go_num, by omega, HF2, ⟨?_⟩, HU, BK2, HB, HZ⟩
          rw [HP2.out]
          exact parse_fuel _ _ _ _ _ _ (by omega) (by rw [hsz]; exact Nat.lt_succ_self _)
        case measure =>
          have hsz : (⟨(Lib.cut t.data.toList [10]).2.1.toArray⟩ : ByteArray).size = (Lib.cut t.data.toList [10]).2.1.length := by
            show (Lib.cut t.data.toList [10]).2.1.toArray.size = _
            rw [List.size_toArray]
          have hts : t.data.toList.length = t.size := by rw [Array.length_toList]; rfl
          have hcr := HCR.out.1
          show (⟨(Lib.cut t.data.toList [10]).2.1.toArray⟩ : ByteArray).size < t.size
          omega
    · have hf' : (Lib.cut t.data.toList [10]).2.2 = false := by simpa using hf
      have HCT : Aside0 (Lib.cut t.data.toList [10] = ((⟨(Lib.cut t.data.toList [10]).1.toArray⟩ : ByteArray).data.toList, (⟨(Lib.cut t.data.toList [10]).2.1.toArray⟩ : ByteArray).data.toList, false)) := ⟨by rw [← hf']⟩
      replace HP : Aside0 (parseOf text = ([], [], j + 1, 80)) := ⟨by rw [HP.out, parseRun, if_neg he, if_neg hf]⟩
      clear hf hf'
      go_wp2_with (first
        | (go_at_call 48; refine (cut_at t ⟨(Lib.cut t.data.toList [10]).1.toArray⟩ ⟨(Lib.cut t.data.toList [10]).2.1.toArray⟩ false _ (HL.out.below HB.out) HTS.out HCT.out).mono ?_; rintro e w4 ⟨rfl, hb⟩; have n1_ := Aside0.mk (blk_below BK2.out hb); have n3_ := Aside0.mk (below_then HB.out HB.out.size hb); have n4_ := Aside0.mk (unit_below HU.out hb); have n5_ := Aside0.mk (Nat.le_trans HZ.out hb.size); clear BK2 HB HU HZ hb; have BK2 := n1_; have HB := n3_; have HU := n4_; have HZ := n5_; clear n1_ n3_ n4_ n5_)
        | (refine wpList_store_row rfl 36 (.tmp 2) (.tmp 27) rfl g2 #[.slice none 0 0, .slice none 0 0] rfl rfl 36 _ BK2.out (by kernel_rfl) rfl (by kernel_rfl) ?_; have n9_ : Aside0 ((w4.setRow g2 #[.slice none 0 0, .slice none 0 0]).heap[g2]? = some (.cells #[.slice none 0 0, .slice none 0 0] 36 (0, 0))) := ⟨setRow_heap _ _ _ _ _ _ BK2.out⟩; have n8_ := Aside0.mk (below_setRow HB.out GE2.out #[.slice none 0 0, .slice none 0 0]); generalize w4.setRow g2 #[.slice none 0 0, .slice none 0 0] = wz at n9_ n8_ ⊢))
      refine bodyPost_ret (results_ctt rfl _ _ g2 36 #[.slice none 0 0, .slice none 0 0] (0, 0) _ rfl n9_.out Tryd.underlying36 rfl (by kernel_rfl)) rfl ?_
      rw [HP.out]
      exact ⟨_, _, fun _ => False, fun _ => False, rfl, Kd.S_nil _ _ _ _ _, Kd.S_nil _ _ _ _ _, fun _ h => h.elim, n8_.out⟩
end Go.Proofs.YtfkfgjmhcfagkaaDoor.Given
end
section
namespace Go.Proofs.YtfkfgjmhcfagkaaDoor.Given
open Go.RowKit Go.Proofs.YtfkfgjmhcfagkaaDoorW.PrintWords Go.Proofs.YtfkfgjmhcfagkaaDoorW.PrintLast Go.Proofs.YtfkfgjmhcfagkaaDoorW.PrintMore Go.Proofs.YtfkfgjmhcfagkaaDoor.Print
set_option linter.unusedVariables false
set_option linter.unusedSimpArgs false
abbrev Rng (n : Int) : Prop := -9223372036854775808 ≤ n ∧ n ≤ 9223372036854775807
theorem rng_wf {n : Int} : (Lit.int .i64 n).wf = true ↔ Rng n := by
  have e : (Lit.int .i64 n).wf = (decide (-9223372036854775808 ≤ n) && decide (n ≤ 9223372036854775807)) := rfl
  rw [e]
  simp
def parseAt (at_ : Nat) (ps : List S57) (ts : List S54) (t : List UInt8) : List S57 × List S54 × Nat × Int := parseRun (t.length + 1) at_ ps ts t
theorem parse_end (at_ : Nat) (ps : List S57) (ts : List S54) : parseAt at_ ps ts [] = (ps, ts, 0, 0) := rfl
theorem parse_line (at_ : Nat) (ps : List S57) (ts : List S54) (s : ByteArray) (rest : List UInt8) (u : List S57 × List S54) (hs : (10 : UInt8) ∉ s.data.toList) (h : addOf ps ts s = some u) :
    parseAt at_ ps ts (s.data.toList ++ 10 :: rest) = parseAt (at_ + 1) u.1 u.2 rest := by
  unfold parseAt
  rw [parseRun, cut_hit _ _ hs]
  have e : (⟨s.data.toList.toArray⟩ : ByteArray) = s := bytes_ext (by simp)
  rw [if_neg (by simp), if_pos rfl]
  simp only
  rw [e, h]
  exact parse_fuel _ _ _ _ _ _ (by simp; omega) (by omega)
theorem parse_of (text : ByteArray) : parseOf text = parseAt 1 [] [] text.data.toList := by
  unfold parseOf parseAt
  rw [Array.length_toList]
  rfl
theorem no_ten (wd : ByteArray) (n : List Int) (hw : (10 : UInt8) ∉ wd.data.toList) : (10 : UInt8) ∉ (wordsOf wd n).data.toList := by
  rw [words_list]
  unfold joinS
  rw [List.mem_append, List.mem_flatMap]
  rintro (h | ⟨x, hx, h⟩)
  · exact hw h
  · obtain ⟨v, _, rfl⟩ := List.mem_map.1 hx
    rcases List.mem_cons.1 h with h | h
    · exact absurd h (by decide)
    · exact (itoa_bytes v 10 h).2 rfl
theorem line_list (wd : ByteArray) (n : List Int) : (lineOf wd n).data.toList = (wordsOf wd n).data.toList ++ [10] := by
  unfold lineOf
  rw [app_list]
theorem name_facts : ∀ k : Fin 28, 1 ≤ k.val → (nameAt k.val).data.toList.all (fun b => b != 32 && b != 10) = true ∧ nameAt k.val ≠ typeWord ∧ (nameAt k.val = progWord → k.val = 22) ∧ opOf (nameAt k.val) = (k.val : Int) := by decide +kernel
theorem type_no : (32 : UInt8) ∉ typeWord.data.toList ∧ (10 : UInt8) ∉ typeWord.data.toList ∧ (32 : UInt8) ∉ progWord.data.toList ∧ (10 : UInt8) ∉ progWord.data.toList ∧ progWord ≠ typeWord := by decide +kernel
theorem flag_eq (b : Bool) : (flagOf b == 1) = b := by cases b <;> rfl
theorem flag_in (b : Bool) : flagOf b = 0 ∨ flagOf b = 1 := by cases b <;> simp [flagOf]
theorem flag_rng (b : Bool) : Rng (flagOf b) := by cases b <;> simp [flagOf, Rng]
def goodT (t : S54) : Prop := Rng t.f0 ∧ ∀ n ∈ t.f1, Rng n
def goodI (i : S28) : Prop := cleanIns i.f0 i.f1 i.f2 i.f3 = true ∧ Rng i.f1 ∧ Rng i.f2 ∧ ∀ n ∈ i.f3, Rng n
def goodP (p : S57) : Prop := Rng p.f0 ∧ Rng p.f1 ∧ Rng p.f2 ∧ ∀ i ∈ p.f4, goodI i
def typeW (t : S54) : ByteArray := wordsOf typeWord ([t.f0, flagOf t.f2] ++ t.f1)
def progW (p : S57) : ByteArray := wordsOf progWord [p.f0, p.f1, p.f2, flagOf p.f3]
def insW (i : S28) : ByteArray := wordsOf (nameAt i.f0.toNat) (numsOf i.f0.toNat i.f1 i.f2 ++ i.f3)
theorem add_typeW (ts : List S54) (t : S54) (h : goodT t) : addOf [] ts (typeW t) = some ([], ts ++ [t]) ∧ (10 : UInt8) ∉ (typeW t).data.toList := by
  refine ⟨?_, no_ten _ _ type_no.2.1⟩
  have hr : readOf (typeW t) = some (typeWord, [t.f0, flagOf t.f2] ++ t.f1) := read_words _ _ type_no.1 (fun x hx => by
    simp only [List.mem_append, List.mem_cons, List.not_mem_nil, or_false] at hx
    rcases hx with (rfl | rfl) | hx
    · exact h.1
    · exact flag_rng _
    · exact h.2 x hx)
  unfold addOf
  rw [hr]
  simp only [if_true, List.cons_append, List.nil_append, List.isEmpty_nil, and_true]
  rw [if_pos (flag_in _), flag_eq]
theorem add_progW (ps : List S57) (ts : List S54) (p : S57) (h1 : Rng p.f0) (h2 : Rng p.f1) (h3 : Rng p.f2) : addOf ps ts (progW p) = some (ps ++ [⟨p.f0, p.f1, p.f2, p.f3, []⟩], ts) ∧ (10 : UInt8) ∉ (progW p).data.toList := by
  refine ⟨?_, no_ten _ _ type_no.2.2.2.1⟩
  have hr : readOf (progW p) = some (progWord, [p.f0, p.f1, p.f2, flagOf p.f3]) := read_words _ _ type_no.2.2.1 (fun x hx => by
    simp only [List.mem_cons, List.not_mem_nil, or_false] at hx
    rcases hx with rfl | rfl | rfl | rfl
    · exact h1
    · exact h2
    · exact h3
    · exact flag_rng _)
  unfold addOf
  rw [hr]
  simp only [if_neg type_no.2.2.2.2, decide_true]
  rw [if_pos (flag_in _), flag_eq]
theorem one_ins (i : S28) (h : goodI i) : oneOf (nameAt i.f0.toNat) (numsOf i.f0.toNat i.f1 i.f2 ++ i.f3) = some i := by
  obtain ⟨hc, _⟩ := h
  unfold cleanIns at hc
  simp only [Bool.and_eq_true, decide_eq_true_eq] at hc
  obtain ⟨⟨⟨⟨h1, h2⟩, hA'⟩, hB'⟩, hL'⟩ := hc
  obtain ⟨_, _, _, ho⟩ := name_facts ⟨i.f0.toNat, by omega⟩ (by show 1 ≤ i.f0.toNat; omega)
  simp only at ho
  have hk : ((i.f0.toNat : Nat) : Int) = i.f0 := by omega
  obtain ⟨op, a, b, l⟩ := i
  simp only at h1 h2 hA' hB' hL' ho hk ⊢
  unfold oneOf
  rw [ho, if_neg (by omega), Int.toNat_natCast]
  obtain ⟨_, hH⟩ := rows_at op.toNat (by omega) (by omega)
  unfold numsOf
  rcases hH with hH | hH | hH | hH | hH
  · have eA : hA op.toNat = false := by unfold hA; rw [hH]; rfl
    have eB : hB op.toNat = false := by unfold hB; rw [hH]; rfl
    have eL : hL op.toNat = false := by unfold hL; rw [hH]; rfl
    rw [eA] at hA'
    rw [eB] at hB'
    rw [eL] at hL'
    try simp only [Bool.true_or, Bool.false_or, beq_iff_eq] at hA'
    try simp only [Bool.true_or, Bool.false_or, beq_iff_eq] at hB'
    try simp only [Bool.true_or, Bool.false_or, beq_iff_eq, List.length_eq_zero_iff] at hL'
    subst hA'
    subst hB'
    subst hL'
    rw [eA, eB, eL]
    simp [hk]
  · have eA : hA op.toNat = true := by unfold hA; rw [hH]; rfl
    have eB : hB op.toNat = false := by unfold hB; rw [hH]; rfl
    have eL : hL op.toNat = false := by unfold hL; rw [hH]; rfl
    rw [eA] at hA'
    rw [eB] at hB'
    rw [eL] at hL'
    try simp only [Bool.true_or, Bool.false_or, beq_iff_eq] at hA'
    try simp only [Bool.true_or, Bool.false_or, beq_iff_eq] at hB'
    try simp only [Bool.true_or, Bool.false_or, beq_iff_eq, List.length_eq_zero_iff] at hL'
    subst hB'
    subst hL'
    rw [eA, eB, eL]
    simp [hk]
  · have eA : hA op.toNat = true := by unfold hA; rw [hH]; rfl
    have eB : hB op.toNat = true := by unfold hB; rw [hH]; rfl
    have eL : hL op.toNat = false := by unfold hL; rw [hH]; rfl
    rw [eA] at hA'
    rw [eB] at hB'
    rw [eL] at hL'
    try simp only [Bool.true_or, Bool.false_or, beq_iff_eq] at hA'
    try simp only [Bool.true_or, Bool.false_or, beq_iff_eq] at hB'
    try simp only [Bool.true_or, Bool.false_or, beq_iff_eq, List.length_eq_zero_iff] at hL'
    subst hL'
    rw [eA, eB, eL]
    simp [hk]
  · have eA : hA op.toNat = false := by unfold hA; rw [hH]; rfl
    have eB : hB op.toNat = false := by unfold hB; rw [hH]; rfl
    have eL : hL op.toNat = true := by unfold hL; rw [hH]; rfl
    rw [eA] at hA'
    rw [eB] at hB'
    rw [eL] at hL'
    try simp only [Bool.true_or, Bool.false_or, beq_iff_eq] at hA'
    try simp only [Bool.true_or, Bool.false_or, beq_iff_eq] at hB'
    try simp only [Bool.true_or, Bool.false_or, beq_iff_eq, List.length_eq_zero_iff] at hL'
    subst hA'
    subst hB'
    rw [eA, eB, eL]
    simp [hk]
  · have eA : hA op.toNat = true := by unfold hA; rw [hH]; rfl
    have eB : hB op.toNat = false := by unfold hB; rw [hH]; rfl
    have eL : hL op.toNat = true := by unfold hL; rw [hH]; rfl
    rw [eA] at hA'
    rw [eB] at hB'
    rw [eL] at hL'
    try simp only [Bool.true_or, Bool.false_or, beq_iff_eq] at hA'
    try simp only [Bool.true_or, Bool.false_or, beq_iff_eq] at hB'
    try simp only [Bool.true_or, Bool.false_or, beq_iff_eq, List.length_eq_zero_iff] at hL'
    subst hB'
    rw [eA, eB, eL]
    simp [hk]
theorem nums_22 (a b : Int) : numsOf 22 a b = [a, b] := by
  have h : hA 22 = true ∧ hB 22 = true := by decide +kernel
  unfold numsOf
  rw [h.1, h.2]
  rfl
theorem add_insW (q : List S57) (p : S57) (ts : List S54) (i : S28) (h : goodI i) : addOf (q ++ [p]) ts (insW i) = some (q ++ [⟨p.f0, p.f1, p.f2, p.f3, p.f4 ++ [i]⟩], ts) ∧ (10 : UInt8) ∉ (insW i).data.toList := by
  have h1 := one_ins i h
  obtain ⟨hc, hra, hrb, hrl⟩ := h
  have hc' := hc
  unfold cleanIns at hc'
  simp only [Bool.and_eq_true, decide_eq_true_eq] at hc'
  obtain ⟨⟨⟨⟨c1, c2⟩, _⟩, _⟩, cL⟩ := hc'
  obtain ⟨hb, hnt, hnp, _⟩ := name_facts ⟨i.f0.toNat, by omega⟩ (by show 1 ≤ i.f0.toNat; omega)
  simp only at hb hnt hnp
  have hb2 := List.all_eq_true.1 hb
  have no32 : (32 : UInt8) ∉ (nameAt i.f0.toNat).data.toList := fun hm => by have := hb2 _ hm; simp at this
  have no10 : (10 : UInt8) ∉ (nameAt i.f0.toNat).data.toList := fun hm => by have := hb2 _ hm; simp at this
  refine ⟨?_, no_ten _ _ no10⟩
  have hr : readOf (insW i) = some (nameAt i.f0.toNat, numsOf i.f0.toNat i.f1 i.f2 ++ i.f3) := read_words _ _ no32 (fun x hx => by
    rcases List.mem_append.1 hx with hx | hx
    · unfold numsOf at hx
      rcases List.mem_append.1 hx with hx | hx
      · split at hx
        · rw [List.mem_singleton.1 hx]; exact hra
        · cases hx
      · split at hx
        · rw [List.mem_singleton.1 hx]; exact hrb
        · cases hx
    · exact hrl x hx)
  have hadd : (match oneOf (nameAt i.f0.toNat) (numsOf i.f0.toNat i.f1 i.f2 ++ i.f3) with | none => none | some j => (addLast (q ++ [p]) j).map fun ps => (ps, ts)) = some (q ++ [⟨p.f0, p.f1, p.f2, p.f3, p.f4 ++ [i]⟩], ts) := by
    rw [h1]
    simp only
    unfold addLast
    have e1 : (q ++ [p]).getLast? = some p := by simp
    have e2 : (q ++ [p]).dropLast = q := by simp
    rw [e1, e2]
    rfl
  unfold addOf
  rw [hr]
  simp only [if_neg hnt]
  by_cases hp : nameAt i.f0.toNat = progWord
  · have hk := hnp hp
    have hl : i.f3 = [] := by
      rw [hk] at cL
      have : hL 22 = false := by decide +kernel
      rw [this] at cL
      simpa using cL
    rw [hk, nums_22, hl] at hadd ⊢
    rw [hk] at hp
    simp only [hp, decide_true]
    rw [hp] at hadd
    exact hadd
  · simp only [hp, decide_false]
    exact hadd
end Go.Proofs.YtfkfgjmhcfagkaaDoor.Given
end
section
namespace Go.Proofs.YtfkfgjmhcfagkaaDoor.Given
open Go.RowKit Go.Proofs.YtfkfgjmhcfagkaaDoorW.PrintWords Go.Proofs.YtfkfgjmhcfagkaaDoorW.PrintLast Go.Proofs.YtfkfgjmhcfagkaaDoorW.PrintMore Go.Proofs.YtfkfgjmhcfagkaaDoor.Print
set_option linter.unusedVariables false
set_option linter.unusedSimpArgs false
def tL (t : S54) : List UInt8 := (typeW t).data.toList ++ [10]
def iL (i : S28) : List UInt8 := (insW i).data.toList ++ [10]
def hL0 (p : S57) : List UInt8 := (progW p).data.toList ++ [10]
def pL (p : S57) : List UInt8 := hL0 p ++ p.f4.flatMap iL
theorem fold_list {α : Type} (f : α → ByteArray) : ∀ (l : List α) (acc : ByteArray), (l.foldl (fun acc x => acc ++ f x) acc).data.toList = acc.data.toList ++ l.flatMap (fun x => (f x).data.toList)
  | [], acc => by simp
  | x :: l, acc => by
    rw [List.foldl_cons, fold_list f l, app_list, List.flatMap_cons, List.append_assoc]
theorem types_list (ts : List S54) : (typesText ⟨#[]⟩ ts).data.toList = ts.flatMap tL := by
  unfold typesText
  rw [fold_list]
  have e : (fun x => (typeLine x).data.toList) = tL := by
    funext t
    exact line_list _ _
  rw [e]
  rfl
theorem prog_list (acc : ByteArray) (p : S57) : (progText acc p).data.toList = acc.data.toList ++ pL p := by
  unfold progText codeText
  rw [fold_list, app_list]
  have e : (fun x : S28 => (insLine x.f0 x.f1 x.f2 x.f3).data.toList) = iL := by
    funext i
    exact line_list _ _
  have e2 : (progLine p).data.toList = hL0 p := line_list _ _
  rw [e, e2, pL, List.append_assoc]
theorem progs_list : ∀ (ps : List S57) (acc : ByteArray), (progsText acc ps).data.toList = acc.data.toList ++ ps.flatMap pL
  | [], acc => by simp [progsText]
  | p :: ps, acc => by
    have ih := progs_list ps (progText acc p)
    unfold progsText at ih ⊢
    rw [List.foldl_cons, ih, prog_list, List.flatMap_cons, List.append_assoc]
def txt (ps : List S57) (ts : List S54) : List UInt8 := ts.flatMap tL ++ ps.flatMap pL
theorem full_list (ps : List S57) (ts : List S54) : (fullText ps ts).data.toList = txt ps ts := by
  unfold fullText
  rw [progs_list, types_list]
  rfl
theorem parse_types : ∀ (l ts : List S54) (at_ : Nat) (rest : List UInt8), (∀ t ∈ l, goodT t) → parseAt at_ [] ts (l.flatMap tL ++ rest) = parseAt (at_ + l.length) [] (ts ++ l) rest
  | [], ts, at_, rest, _ => by simp
  | t :: l, ts, at_, rest, h => by
    obtain ⟨h1, h2⟩ := add_typeW ts t (h t (by simp))
    have ih := parse_types l (ts ++ [t]) (at_ + 1) rest (fun x hx => h x (by simp [hx]))
    have e : (t :: l).flatMap tL ++ rest = (typeW t).data.toList ++ 10 :: (l.flatMap tL ++ rest) := by simp [tL]
    rw [e, parse_line at_ [] ts (typeW t) _ _ h2 h1, ih]
    congr 1
    · simp; omega
    · simp
theorem parse_code : ∀ (l : List S28) (q : List S57) (p : S57) (ts : List S54) (at_ : Nat) (rest : List UInt8), (∀ i ∈ l, goodI i) →
    parseAt at_ (q ++ [p]) ts (l.flatMap iL ++ rest) = parseAt (at_ + l.length) (q ++ [⟨p.f0, p.f1, p.f2, p.f3, p.f4 ++ l⟩]) ts rest
  | [], q, p, ts, at_, rest, _ => by simp
  | i :: l, q, p, ts, at_, rest, h => by
    obtain ⟨h1, h2⟩ := add_insW q p ts i (h i (by simp))
    have ih := parse_code l q ⟨p.f0, p.f1, p.f2, p.f3, p.f4 ++ [i]⟩ ts (at_ + 1) rest (fun x hx => h x (by simp [hx]))
    have e : (i :: l).flatMap iL ++ rest = (insW i).data.toList ++ 10 :: (l.flatMap iL ++ rest) := by simp [iL]
    rw [e, parse_line at_ _ ts (insW i) _ _ h2 h1, ih]
    congr 1
    · simp; omega
    · simp
theorem parse_progs : ∀ (l ps : List S57) (ts : List S54) (at_ : Nat) (rest : List UInt8), (∀ p ∈ l, goodP p) → ∃ n, parseAt at_ ps ts (l.flatMap pL ++ rest) = parseAt n (ps ++ l) ts rest
  | [], ps, ts, at_, rest, _ => ⟨at_, by simp⟩
  | p :: l, ps, ts, at_, rest, h => by
    obtain ⟨g0, g1, g2, gc⟩ := h p (by simp)
    obtain ⟨h1, h2⟩ := add_progW ps ts p g0 g1 g2
    have e : (p :: l).flatMap pL ++ rest = (progW p).data.toList ++ 10 :: (p.f4.flatMap iL ++ (l.flatMap pL ++ rest)) := by simp [pL, hL0]
    have hc := parse_code p.f4 ps ⟨p.f0, p.f1, p.f2, p.f3, []⟩ ts (at_ + 1) (l.flatMap pL ++ rest) gc
    obtain ⟨n, ih⟩ := parse_progs l (ps ++ [p]) ts (at_ + 1 + p.f4.length) rest (fun x hx => h x (by simp [hx]))
    refine ⟨n, ?_⟩
    rw [e, parse_line at_ ps ts (progW p) _ _ h2 h1, hc]
    simp only [List.nil_append]
    rw [ih]
    simp
theorem parse_there (ps : List S57) (ts : List S54) (ht : ∀ t ∈ ts, goodT t) (hp : ∀ p ∈ ps, goodP p) : parseOf (fullText ps ts) = (ps, ts, 0, 0) := by
  rw [parse_of, full_list]
  unfold txt
  rw [parse_types ts [] 1 _ ht]
  obtain ⟨n, h⟩ := parse_progs ps [] ([] ++ ts) (1 + ts.length) [] hp
  rw [List.append_nil] at h
  rw [h]
  exact parse_end _ _ _
theorem op_find (t : ByteArray) : ∀ (n k : Nat), opFind t n k ≠ 0 → (nameAt (opFind t n k)).toList = t.toList
  | 0, k, h => absurd rfl h
  | n + 1, k, h => by
    unfold opFind at h ⊢
    split at h
    · rename_i hc
      rw [if_pos hc]
      exact hc.2
    · rename_i hc
      rw [if_neg hc]
      exact op_find t n (k + 1) h
theorem op_name (t : ByteArray) (h : opOf t ≠ 0) : t = nameAt (opOf t).toNat := by
  have h2 : opFind t 28 0 ≠ 0 := fun e => h (by unfold opOf; rw [e]; rfl)
  have := op_find t 28 0 h2
  rw [Lib.toList_data, Lib.toList_data] at this
  exact (bytes_ext this).symm
theorem one_inv (t : ByteArray) (n : List Int) (i : S28) (h : oneOf t n = some i) (hn : ∀ x ∈ n, Rng x) : t = nameAt i.f0.toNat ∧ numsOf i.f0.toNat i.f1 i.f2 ++ i.f3 = n ∧ goodI i := by
  unfold oneOf at h
  by_cases h0 : opOf t = 0
  · rw [if_pos h0] at h; cases h
  rw [if_neg h0] at h
  obtain ⟨k, hk, k1, k2⟩ := op_at t h0
  have ht := op_name t h0
  have hkn : (opOf t).toNat = k := by rw [hk]; rfl
  rw [hkn] at h ht
  have z : Rng 0 := by simp [Rng]
  obtain ⟨_, hH⟩ := rows_at k k1 k2
  have c1 : decide (1 ≤ opOf t) = true := by rw [hk]; simp; omega
  have c2 : decide (opOf t ≤ 27) = true := by rw [hk]; simp; omega
  rcases hH with hH | hH | hH | hH | hH
  · have eA : hA k = false := by unfold hA; rw [hH]; rfl
    have eB : hB k = false := by unfold hB; rw [hH]; rfl
    have eL : hL k = false := by unfold hL; rw [hH]; rfl
    rw [eA, eB, eL] at h
    match n, h, hn with
    | [], h, hn =>
      simp only [Option.some.injEq] at h
      subst h
      refine ⟨by rw [hkn]; exact ht, by simp [hkn, numsOf, eA, eB], ?_, ?_, ?_, ?_⟩
      · simp [cleanIns, hkn, eA, eB, eL, c1, c2]
      · exact z
      · exact z
      · exact fun x hx => by cases hx
    | x :: r, h, hn => simp at h
  · have eA : hA k = true := by unfold hA; rw [hH]; rfl
    have eB : hB k = false := by unfold hB; rw [hH]; rfl
    have eL : hL k = false := by unfold hL; rw [hH]; rfl
    rw [eA, eB, eL] at h
    match n, h, hn with
    | [], h, hn => simp at h
    | [x], h, hn =>
      simp only [Option.some.injEq] at h
      subst h
      refine ⟨by rw [hkn]; exact ht, by simp [hkn, numsOf, eA, eB], ?_, ?_, ?_, ?_⟩
      · simp [cleanIns, hkn, eA, eB, eL, c1, c2]
      · exact hn x (by simp)
      · exact z
      · exact fun x hx => by cases hx
    | x :: y :: r, h, hn => simp at h
  · have eA : hA k = true := by unfold hA; rw [hH]; rfl
    have eB : hB k = true := by unfold hB; rw [hH]; rfl
    have eL : hL k = false := by unfold hL; rw [hH]; rfl
    rw [eA, eB, eL] at h
    match n, h, hn with
    | [], h, hn => simp at h
    | [x], h, hn => simp at h
    | [x, y], h, hn =>
      simp only [Option.some.injEq] at h
      subst h
      refine ⟨by rw [hkn]; exact ht, by simp [hkn, numsOf, eA, eB], ?_, ?_, ?_, ?_⟩
      · simp [cleanIns, hkn, eA, eB, eL, c1, c2]
      · exact hn x (by simp)
      · exact hn y (by simp)
      · exact fun x hx => by cases hx
    | x :: y :: z :: r, h, hn => simp at h
  · have eA : hA k = false := by unfold hA; rw [hH]; rfl
    have eB : hB k = false := by unfold hB; rw [hH]; rfl
    have eL : hL k = true := by unfold hL; rw [hH]; rfl
    rw [eA, eB, eL] at h
    match n, h, hn with
    | l, h, hn =>
      simp only [Option.some.injEq] at h
      subst h
      refine ⟨by rw [hkn]; exact ht, by simp [hkn, numsOf, eA, eB], ?_, ?_, ?_, ?_⟩
      · simp [cleanIns, hkn, eA, eB, eL, c1, c2]
      · exact z
      · exact z
      · exact hn
  · have eA : hA k = true := by unfold hA; rw [hH]; rfl
    have eB : hB k = false := by unfold hB; rw [hH]; rfl
    have eL : hL k = true := by unfold hL; rw [hH]; rfl
    rw [eA, eB, eL] at h
    match n, h, hn with
    | [], h, hn => simp at h
    | x :: r, h, hn =>
      simp only [Option.some.injEq] at h
      subst h
      refine ⟨by rw [hkn]; exact ht, by simp [hkn, numsOf, eA, eB], ?_, ?_, ?_, ?_⟩
      · simp [cleanIns, hkn, eA, eB, eL, c1, c2]
      · exact hn x (by simp)
      · exact z
      · exact fun y hy => hn y (by simp [hy])
theorem flag_back (b : Int) (h : b = 0 ∨ b = 1) : flagOf (b == 1) = b := by
  rcases h with rfl | rfl <;> rfl
def goodAll (ps : List S57) (ts : List S54) : Prop := (∀ t ∈ ts, goodT t) ∧ ∀ p ∈ ps, goodP p
theorem txt_ins (q : List S57) (p : S57) (ts : List S54) (i : S28) : txt (q ++ [⟨p.f0, p.f1, p.f2, p.f3, p.f4 ++ [i]⟩]) ts = txt (q ++ [p]) ts ++ iL i := by
  simp [txt, pL, hL0, progW]
theorem add_back (ps : List S57) (ts : List S54) (s : ByteArray) (u : List S57 × List S54) (hg : goodAll ps ts) (h : addOf ps ts s = some u) : txt u.1 u.2 = txt ps ts ++ (s.data.toList ++ [10]) ∧ goodAll u.1 u.2 := by
  unfold addOf at h
  cases hr : readOf s with
  | none => rw [hr] at h; cases h
  | some x =>
    obtain ⟨wd, n⟩ := x
    rw [hr] at h
    obtain ⟨hs, _, hn⟩ := read_inv s wd n hr
    simp only at h
    have hlast : (match oneOf wd n with | none => none | some i => (addLast ps i).map fun ps => (ps, ts)) = some u → txt u.1 u.2 = txt ps ts ++ (s.data.toList ++ [10]) ∧ goodAll u.1 u.2 := by
      intro h
      cases ho : oneOf wd n with
      | none => rw [ho] at h; cases h
      | some i =>
        rw [ho] at h
        obtain ⟨e1, e2, hi⟩ := one_inv wd n i ho hn
        simp only at h
        unfold addLast at h
        rcases List.eq_nil_or_concat ps with rfl | ⟨q, p, rfl⟩
        · cases h
        · rw [List.concat_eq_append] at h hg ⊢
          have g1 : (q ++ [p]).getLast? = some p := by simp
          have g2 : (q ++ [p]).dropLast = q := by simp
          rw [g1, g2] at h
          injection h with h
          subst h
          refine ⟨?_, hg.1, fun x hx => ?_⟩
          · show txt (q ++ [⟨p.f0, p.f1, p.f2, p.f3, p.f4 ++ [i]⟩]) ts = _
            rw [txt_ins, iL, insW, ← e1, e2, ← hs]
          · rcases List.mem_append.1 hx with hx | hx
            · exact hg.2 x (by simp [hx])
            · rw [List.mem_singleton.1 hx]
              obtain ⟨a, b, c, d⟩ := hg.2 p (by simp)
              refine ⟨a, b, c, fun j hj => ?_⟩
              rcases List.mem_append.1 hj with hj | hj
              · exact d j hj
              · rw [List.mem_singleton.1 hj]
                exact hi
    by_cases ht : wd = typeWord
    · rw [if_pos ht] at h
      match n, h, hn, hs with
      | a :: b :: r, h, hn, hs =>
        simp only at h
        split at h
        · rename_i hc
          injection h with h
          subst h
          have hps : ps = [] := by simpa using hc.2
          subst hps
          refine ⟨?_, ?_, hg.2⟩
          · show txt [] (ts ++ [⟨a, r, b == 1⟩]) = _
            simp only [txt, List.flatMap_append, List.flatMap_cons, List.flatMap_nil, List.append_nil, tL, typeW]
            rw [flag_back b hc.1, hs, ht]
            rfl
          · intro t hm
            rcases List.mem_append.1 hm with hm | hm
            · exact hg.1 t hm
            · rw [List.mem_singleton.1 hm]
              exact ⟨hn a (by simp), fun x hx => hn x (by simp [hx])⟩
        · cases h
      | [], h, _, _ => cases h
      | [a], h, _, _ => cases h
    · rw [if_neg ht] at h
      by_cases hp : wd = progWord
      · simp only [hp, decide_true] at h
        match n, h, hn, hs, hlast with
        | [a, b, c, d], h, hn, hs, _ =>
          simp only at h
          split at h
          · rename_i hc
            injection h with h
            subst h
            refine ⟨?_, hg.1, fun x hx => ?_⟩
            · show txt (ps ++ [⟨a, b, c, d == 1, []⟩]) ts = _
              simp only [txt, List.flatMap_append, List.flatMap_cons, List.flatMap_nil, List.append_nil, pL, hL0, progW]
              rw [flag_back d hc, hs, hp]
              simp
            · rcases List.mem_append.1 hx with hx | hx
              · exact hg.2 x hx
              · rw [List.mem_singleton.1 hx]
                exact ⟨hn a (by simp), hn b (by simp), hn c (by simp), fun j hj => by cases hj⟩
          · cases h
        | [], h, _, _, hlast => exact hlast (hp ▸ h)
        | [a], h, _, _, hlast => exact hlast (hp ▸ h)
        | [a, b], h, _, _, hlast => exact hlast (hp ▸ h)
        | [a, b, c], h, _, _, hlast => exact hlast (hp ▸ h)
        | a :: b :: c :: d :: e :: r, h, _, _, hlast => exact hlast (hp ▸ h)
      · simp only [hp, decide_false] at h
        exact hlast h
theorem parse_out : ∀ (k at_ : Nat) (ps : List S57) (ts : List S54) (t : List UInt8), 1 ≤ at_ → goodAll ps ts → t.length < k →
    ((parseRun k at_ ps ts t).2.2.2 = 0 ∧ (parseRun k at_ ps ts t).2.2.1 = 0 ∧ goodAll (parseRun k at_ ps ts t).1 (parseRun k at_ ps ts t).2.1 ∧ txt (parseRun k at_ ps ts t).1 (parseRun k at_ ps ts t).2.1 = txt ps ts ++ t) ∨
    ((parseRun k at_ ps ts t).2.2.2 = 80 ∧ 1 ≤ (parseRun k at_ ps ts t).2.2.1 ∧ (parseRun k at_ ps ts t).1 = [] ∧ (parseRun k at_ ps ts t).2.1 = [])
  | 0, at_, ps, ts, t, h1, hg, h => absurd h (Nat.not_lt_zero _)
  | k + 1, at_, ps, ts, t, h1, hg, h => by
    unfold parseRun
    by_cases he : t.isEmpty = true
    · rw [if_pos he]
      have : t = [] := by simpa using he
      subst this
      exact .inl ⟨rfl, rfl, hg, by simp⟩
    · rw [if_neg he]
      by_cases hf : (Lib.cut t [10]).2.2 = true
      · rw [if_pos hf]
        have hl := (cut_rest t (by simpa using he) hf).1
        obtain ⟨hc, _⟩ := cut_true t hf
        cases ha : addOf ps ts ⟨(Lib.cut t [10]).1.toArray⟩ with
        | none => exact .inr ⟨rfl, h1, rfl, rfl⟩
        | some u =>
          obtain ⟨hb, hg2⟩ := add_back ps ts _ u hg ha
          simp only
          rcases parse_out k (at_ + 1) u.1 u.2 (Lib.cut t [10]).2.1 (by omega) hg2 (by omega) with ⟨r1, r2, r3, r4⟩ | r
          · refine .inl ⟨r1, r2, r3, ?_⟩
            rw [r4, hb]
            simp only [List.append_assoc]
            congr 1
            simpa using hc.symm
          · exact .inr r
      · rw [if_neg hf]
        exact .inr ⟨rfl, h1, rfl, rfl⟩
end Go.Proofs.YtfkfgjmhcfagkaaDoor.Given
end
section
namespace Go.Proofs.YtfkfgjmhcfagkaaDoor.Print
open Go.RowKit
open Go.RowKit Go.Proofs.YtfkfgjmhcfagkaaDoorW.PrintWords Go.Proofs.YtfkfgjmhcfagkaaDoorW.PrintLast Go.Proofs.YtfkfgjmhcfagkaaDoorW.PrintMore
attribute [local go_sem] max2_int min2_int max_two min_two max_three min_three max_four min_four
set_option linter.unusedVariables false
set_option linter.unusedSimpArgs false
end Go.Proofs.YtfkfgjmhcfagkaaDoor.Print
end
section
namespace Go.Proofs.YtfkfgjmhcfagkaaDoor.Print
open Go.RowKit
open Go.RowKit Go.Proofs.YtfkfgjmhcfagkaaDoorW.PrintWords Go.Proofs.YtfkfgjmhcfagkaaDoorW.PrintLast Go.Proofs.YtfkfgjmhcfagkaaDoorW.PrintMore
attribute [local go_sem] max2_int min2_int max_two min_two max_three min_three max_four min_four
set_option linter.unusedVariables false
set_option linter.unusedSimpArgs false
def squintlaw08_sameInts.l0 : Nat → List Int → List Int → Int → Option (Bool)
  | 0, _, _, _ => none
  | k + 1, x0, x1, x5 => if x5 < (x0.length : Int) then (if 0 ≤ x5 then (if x5 < (x1.length : Int) then (if (rd x0 x5) = (rd x1 x5) then (squintlaw08_sameInts.l0 k x0 x1 (wrap64 (x5 + 1))) else (some false)) else (none)) else (none)) else (some true)
def squintlaw08_sameInts.f (k : Nat) (l0 : List Int) (l1 : List Int) : Option (Bool) := if (l0.length : Int) = (l1.length : Int) then (squintlaw08_sameInts.l0 k l0 l1 0) else (some false)
set_option maxHeartbeats 8000000 in
set_option maxRecDepth 100000 in
theorem squintlaw08_sameInts.calls (k : Nat) (A0 : Option Addr) (c0 : Nat) (l0 : List Int) (A1 : Option Addr) (c1 : Nat) (l1 : List Int) (r : Bool) (w : World) (hr0 : Kd.C (Kd.int .i64) w A0 l0.length l0) (hc0 : l0.length ≤ c0) (hr1 : Kd.C (Kd.int .i64) w A1 l1.length l1) (hc1 : l1.length ≤ c1) (h : squintlaw08_sameInts.f k l0 l1 = some r) :
    Calls Tryd.prog 19 #[.slice A0 l0.length c0, .slice A1 l1.length c1] w fun e w' => e = .returned (.bool r) ∧ Drawn0 w w' := by
  have HR0 := Aside0.mk hr0
  have HC0 := Aside0.mk hc0
  clear hr0 hc0
  have HR1 := Aside0.mk hr1
  have HC1 := Aside0.mk hc1
  clear hr1 hc1
  have H : (if (l0.length : Int) = (l1.length : Int) then (squintlaw08_sameInts.l0 k l0 l1 0) else (some false)) = some r := h
  clear h
  by_cases c3 : (l0.length : Int) = (l1.length : Int)
  · rw [if_pos c3] at H
    have c3b0 : ((l0.length : Int) == (l1.length : Int)) = true := beq_iff_eq.mpr c3
    have c3b1 : ((l0.length : Int) != (l1.length : Int)) = false := bne_eq_false_iff_eq.mpr c3
    have c3b2 : (l0.length == l1.length) = true := by first | simpa using c3 | (simp at c3 ⊢; omega)
    clear c3
    have H' := Aside0.mk H
    clear H
    go_enter Tryd.func19, Tryd.ntmps19
    go_wp2
    repeat (go_quiet (fail); try go_wp2)
    go_loopg [5] k (fun kq v5 w' => ∃ (x5_1 : Int), v5 = .int .i64 x5_1 ∧ Aside0 (squintlaw08_sameInts.l0 kq l0 l1 x5_1 = some r) ∧ Aside0 (kq ≤ k) ∧ Drawn0 w w')
    case atStart => exact ⟨(0), (by first | rfl | (simp; done) | (simp [*]; done)), H', ⟨Nat.le_refl _⟩, by repeat (first | exact Drawn0.refl _ | apply Drawn0.step)⟩
    case round =>
      clear H'
      try clear c1
      try clear p2
      try clear c3
      try clear c3b0
      try clear c3b1
      try clear c3b2
      obtain ⟨x5_1, rfl, HA, HK1, ⟨m1, rfl⟩⟩ := hrel
      cases gk with
      | zero => exact absurd HA.out (by simp [squintlaw08_sameInts.l0])
      | succ k1 =>
        have H := HA.out
        clear HA
        simp only [squintlaw08_sameInts.l0] at H
        by_cases c4 : x5_1 < (l0.length : Int)
        · rw [if_pos c4] at H
          have c4b0 : decide (x5_1 < (l0.length : Int)) = true := decide_eq_true c4
          clear c4
          by_cases c5 : 0 ≤ x5_1
          · rw [if_pos c5] at H
            have c5b0 : decide (0 ≤ x5_1) = true := decide_eq_true c5
            clear c5
            by_cases c6 : x5_1 < (l1.length : Int)
            · rw [if_pos c6] at H
              have c6b0 : decide (x5_1 < (l1.length : Int)) = true := decide_eq_true c6
              clear c6
              by_cases c7 : (rd l0 x5_1) = (rd l1 x5_1)
              · rw [if_pos c7] at H
                have c7b0 : ((rd l0 x5_1) == (rd l1 x5_1)) = true := beq_iff_eq.mpr c7
                have c7b1 : ((rd l0 x5_1) != (rd l1 x5_1)) = false := bne_eq_false_iff_eq.mpr c7
                clear c7
                have H' := Aside0.mk H
                clear H
                have p194 : 0 ≤ (x5_1 : Int) := of_decide_eq_true (by first | (with_reducible assumption) | assumption)
                have q194 : x5_1 < (l0.length : Int) := of_decide_eq_true (by first | (with_reducible assumption) | assumption)
                obtain ⟨ad194, e194, hx194_0⟩ := Kd.at_int HR0.out x5_1 p194 q194
                cases e194
                replace p194 := eq_true p194
                replace q194 := eq_true q194
                have p195 : 0 ≤ (x5_1 : Int) := of_decide_eq_true (by first | (with_reducible assumption) | assumption)
                have q195 : x5_1 < (l1.length : Int) := of_decide_eq_true (by first | (with_reducible assumption) | assumption)
                obtain ⟨ad195, e195, hx195_0⟩ := Kd.at_int HR1.out x5_1 p195 q195
                cases e195
                replace p195 := eq_true p195
                replace q195 := eq_true q195
                go_wp2
                repeat (go_quiet (fail); try go_wp2)
                go_roundg k1
                case measure => have := HK1.out; omega
                case rel => exact ⟨(wrap64 (x5_1 + 1)), (by first | rfl | (simp; done) | (simp [*]; done)), H', ⟨by have := HK1.out; omega⟩, by repeat (first | exact Drawn0.refl _ | apply Drawn0.step)⟩
              · rw [if_neg c7] at H
                have c7b0 : ((rd l0 x5_1) == (rd l1 x5_1)) = false := beq_eq_false_iff_ne.mpr c7
                have c7b1 : ((rd l0 x5_1) != (rd l1 x5_1)) = true := bne_iff_ne.mpr c7
                obtain rfl := Option.some.inj H
                have p194 : 0 ≤ (x5_1 : Int) := of_decide_eq_true (by first | (with_reducible assumption) | assumption)
                have q194 : x5_1 < (l0.length : Int) := of_decide_eq_true (by first | (with_reducible assumption) | assumption)
                obtain ⟨ad194, e194, hx194_0⟩ := Kd.at_int HR0.out x5_1 p194 q194
                cases e194
                replace p194 := eq_true p194
                replace q194 := eq_true q194
                have p195 : 0 ≤ (x5_1 : Int) := of_decide_eq_true (by first | (with_reducible assumption) | assumption)
                have q195 : x5_1 < (l1.length : Int) := of_decide_eq_true (by first | (with_reducible assumption) | assumption)
                obtain ⟨ad195, e195, hx195_0⟩ := Kd.at_int HR1.out x5_1 p195 q195
                cases e195
                replace p195 := eq_true p195
                replace q195 := eq_true q195
                go_wp2
                repeat (go_quiet (fail); try go_wp2)
                go_ret
                exact ⟨by first | rfl | (simp; done) | (simp [*]; done), by repeat (first | exact Drawn0.refl _ | apply Drawn0.step)⟩
            · rw [if_neg c6] at H
              exact absurd H (by simp)
          · rw [if_neg c5] at H
            exact absurd H (by simp)
        · rw [if_neg c4] at H
          have c4b0 : decide (x5_1 < (l0.length : Int)) = false := decide_eq_false c4
          clear c4
          obtain rfl := Option.some.inj H
          go_wp2
          repeat (go_quiet (fail); try go_wp2)
          go_ret
          exact ⟨by first | rfl | (simp; done) | (simp [*]; done), by repeat (first | exact Drawn0.refl _ | apply Drawn0.step)⟩
  · rw [if_neg c3] at H
    have c3b0 : ((l0.length : Int) == (l1.length : Int)) = false := beq_eq_false_iff_ne.mpr c3
    have c3b1 : ((l0.length : Int) != (l1.length : Int)) = true := bne_iff_ne.mpr c3
    have c3b2 : (l0.length == l1.length) = false := by first | simpa using c3 | (simp at c3 ⊢; omega)
    obtain rfl := Option.some.inj H
    go_enter Tryd.func19, Tryd.ntmps19
    go_wp2
    repeat (go_quiet (fail); try go_wp2)
    go_ret
    exact ⟨by first | rfl | (simp; done) | (simp [*]; done), by repeat (first | exact Drawn0.refl _ | apply Drawn0.step)⟩
def squintlaw08_more.f (a0 : Int) (a1 : Int) : Option (Int) := if a0 > 2147483647 then (some 2147483648) else (if a1 > (wrap64 (2147483647 - a0)) then (some 2147483648) else (some (wrap64 (a0 + a1))))
set_option maxHeartbeats 8000000 in
set_option maxRecDepth 100000 in
theorem squintlaw08_more.calls (a0 : Int) (a1 : Int) (r : Int) (w : World) (h : squintlaw08_more.f a0 a1 = some r) :
    Calls Tryd.prog 34 #[.int .i64 a0, .int .i64 a1] w fun e w' => e = .returned (.int .i64 r) ∧ Drawn0 w w' := by
  have H : (if a0 > 2147483647 then (some 2147483648) else (if a1 > (wrap64 (2147483647 - a0)) then (some 2147483648) else (some (wrap64 (a0 + a1))))) = some r := h
  clear h
  by_cases c3 : a0 > 2147483647
  · rw [if_pos c3] at H
    have c3b0 : decide (2147483647 < a0) = true := decide_eq_true c3
    clear c3
    obtain rfl := Option.some.inj H
    go_enter Tryd.func34, Tryd.ntmps34
    go_wp2
    go_ret
    exact ⟨by first | rfl | (simp; done) | (simp [*]; done), by repeat (first | exact Drawn0.refl _ | apply Drawn0.step)⟩
  · rw [if_neg c3] at H
    have c3b0 : decide (2147483647 < a0) = false := decide_eq_false c3
    clear c3
    by_cases c4 : a1 > (wrap64 (2147483647 - a0))
    · rw [if_pos c4] at H
      have c4b0 : decide ((wrap64 (2147483647 - a0)) < a1) = true := decide_eq_true c4
      clear c4
      obtain rfl := Option.some.inj H
      go_enter Tryd.func34, Tryd.ntmps34
      go_wp2
      go_ret
      exact ⟨by first | rfl | (simp; done) | (simp [*]; done), by repeat (first | exact Drawn0.refl _ | apply Drawn0.step)⟩
    · rw [if_neg c4] at H
      have c4b0 : decide ((wrap64 (2147483647 - a0)) < a1) = false := decide_eq_false c4
      clear c4
      obtain rfl := Option.some.inj H
      go_enter Tryd.func34, Tryd.ntmps34
      go_wp2
      go_ret
      exact ⟨by first | rfl | (simp; done) | (simp [*]; done), by repeat (first | exact Drawn0.refl _ | apply Drawn0.step)⟩
def squintlaw08_many.f (a0 : Int) : Option (Int) := if a0 > 102261126 then (some 2147483648) else (some (wrap64 (a0 * 21)))
set_option maxHeartbeats 8000000 in
set_option maxRecDepth 100000 in
theorem squintlaw08_many.calls (a0 : Int) (r : Int) (w : World) (h : squintlaw08_many.f a0 = some r) :
    Calls Tryd.prog 35 #[.int .i64 a0] w fun e w' => e = .returned (.int .i64 r) ∧ Drawn0 w w' := by
  have H : (if a0 > 102261126 then (some 2147483648) else (some (wrap64 (a0 * 21)))) = some r := h
  clear h
  by_cases c2 : a0 > 102261126
  · rw [if_pos c2] at H
    have c2b0 : decide (102261126 < a0) = true := decide_eq_true c2
    clear c2
    obtain rfl := Option.some.inj H
    go_enter Tryd.func35, Tryd.ntmps35
    go_wp2
    go_ret
    exact ⟨by first | rfl | (simp; done) | (simp [*]; done), by repeat (first | exact Drawn0.refl _ | apply Drawn0.step)⟩
  · rw [if_neg c2] at H
    have c2b0 : decide (102261126 < a0) = false := decide_eq_false c2
    clear c2
    obtain rfl := Option.some.inj H
    go_enter Tryd.func35, Tryd.ntmps35
    go_wp2
    go_ret
    exact ⟨by first | rfl | (simp; done) | (simp [*]; done), by repeat (first | exact Drawn0.refl _ | apply Drawn0.step)⟩
end Go.Proofs.YtfkfgjmhcfagkaaDoor.Print
end
section
namespace Go.Proofs.YtfkfgjmhcfagkaaDoor.Print
open Go.RowKit
open Go.RowKit Go.Proofs.YtfkfgjmhcfagkaaDoorW.PrintWords Go.Proofs.YtfkfgjmhcfagkaaDoorW.PrintLast Go.Proofs.YtfkfgjmhcfagkaaDoorW.PrintMore
attribute [local go_sem] max2_int min2_int max_two min_two max_three min_three max_four min_four
set_option linter.unusedVariables false
set_option linter.unusedSimpArgs false
mutual
def squintlaw08_beyond.l0 : Nat → Int → Int → List (S57) → List (S54) → Option (Bool)
  | 0, _, _, _, _ => none
  | k + 1, x3, x4, x198000, x198001 => if x4 < (x198001.length : Int) then (squintlaw08_beyond.j1 k x3 x4 (decide (x3 ≤ 2147483647)) x198000 x198001) else (squintlaw08_beyond.j1 k x3 x4 false x198000 x198001)
def squintlaw08_beyond.j1 : Nat → Int → Int → Bool → List (S57) → List (S54) → Option (Bool)
  | 0, _, _, _, _, _ => none
  | k + 1, x3, x4, x15, x198000, x198001 => if x15 = true then ((squintlaw08_more.f x3 40).bind fun t198 => (if 0 ≤ x4 then (if x4 < (x198001.length : Int) then ((squintlaw08_many.f (((rd_T54 x198001 x4).f1).length : Int)).bind fun t200 => ((squintlaw08_more.f t198 t200).bind fun t201 => (squintlaw08_beyond.l0 k t201 (wrap64 (x4 + 1)) x198000 x198001))) else (none)) else (none))) else (squintlaw08_beyond.l1 k x3 0 x198000 x198001)
def squintlaw08_beyond.l1 : Nat → Int → Int → List (S57) → List (S54) → Option (Bool)
  | 0, _, _, _, _ => none
  | k + 1, x3, x5, x198000, x198001 => if x5 < (x198000.length : Int) then (squintlaw08_beyond.j3 k x3 x5 (decide (x3 ≤ 2147483647)) x198000 x198001) else (squintlaw08_beyond.j3 k x3 x5 false x198000 x198001)
def squintlaw08_beyond.j3 : Nat → Int → Int → Bool → List (S57) → List (S54) → Option (Bool)
  | 0, _, _, _, _, _ => none
  | k + 1, x3, x5, x38, x198000, x198001 => if x38 = true then ((squintlaw08_more.f x3 100).bind fun t202 => (squintlaw08_beyond.l2 k t202 x5 0 x198000 x198001)) else (some (decide (x3 > 2147483647)))
def squintlaw08_beyond.l2 : Nat → Int → Int → Int → List (S57) → List (S54) → Option (Bool)
  | 0, _, _, _, _, _ => none
  | k + 1, x3, x5, x6, x198000, x198001 => if 0 ≤ x5 then (if x5 < (x198000.length : Int) then (if x6 < (((rd_T57 x198000 x5).f4).length : Int) then (squintlaw08_beyond.j5 k x3 x5 x6 (decide (x3 ≤ 2147483647)) x198000 x198001) else (squintlaw08_beyond.j5 k x3 x5 x6 false x198000 x198001)) else (none)) else (none)
def squintlaw08_beyond.j5 : Nat → Int → Int → Int → Bool → List (S57) → List (S54) → Option (Bool)
  | 0, _, _, _, _, _, _ => none
  | k + 1, x3, x5, x6, x55, x198000, x198001 => if x55 = true then ((squintlaw08_more.f x3 60).bind fun t204 => (if 0 ≤ x5 then (if x5 < (x198000.length : Int) then (if 0 ≤ x6 then (if x6 < (((rd_T57 x198000 x5).f4).length : Int) then ((squintlaw08_many.f (((rd_T28 ((rd_T57 x198000 x5).f4) x6).f3).length : Int)).bind fun t207 => ((squintlaw08_more.f t204 t207).bind fun t208 => (squintlaw08_beyond.l2 k t208 x5 (wrap64 (x6 + 1)) x198000 x198001))) else (none)) else (none)) else (none)) else (none))) else (squintlaw08_beyond.l1 k x3 (wrap64 (x5 + 1)) x198000 x198001)
end
def squintlaw08_beyond.f (k : Nat) (l0_0 : List (S57)) (l0_1 : List (S54)) : Option (Bool) := squintlaw08_beyond.l0 k 0 0 l0_0 l0_1
set_option maxHeartbeats 8000000 in
set_option maxRecDepth 100000 in
theorem squintlaw08_beyond.calls (k : Nat) (A0_0 : Option Addr) (c0_0 : Nat) (l0_0 : List (S57)) (A0_1 : Option Addr) (c0_1 : Nat) (l0_1 : List (S54)) (r : Bool) (w : World) (hr0_0 : Kd.C k57 w A0_0 l0_0.length l0_0) (hc0_0 : l0_0.length ≤ c0_0) (hr0_1 : Kd.C k54 w A0_1 l0_1.length l0_1) (hc0_1 : l0_1.length ≤ c0_1) (h : squintlaw08_beyond.f k l0_0 l0_1 = some r) :
    Calls Tryd.prog 20 #[.agg #[.slice A0_0 l0_0.length c0_0, .slice A0_1 l0_1.length c0_1]] w fun e w' => e = .returned (.bool r) ∧ Below w.heap.size w w' := by
  have hu36 := Tryd.underlying36
  have HR0_0 := Aside0.mk hr0_0
  have HC0_0 := Aside0.mk hc0_0
  clear hr0_0 hc0_0
  have HR0_1 := Aside0.mk hr0_1
  have HC0_1 := Aside0.mk hc0_1
  clear hr0_1 hc0_1
  have HB := Aside0.mk (Below.refl w.heap.size w)
  have H : (squintlaw08_beyond.l0 k 0 0 l0_0 l0_1) = some r := h
  clear h
  have H' := Aside0.mk H
  clear H
  go_enter Tryd.func20, Tryd.ntmps20
  go_wp2_with (first | ((with_reducible refine gate_dst (N := 1) rfl ?_); refine box_event ?hg (N := 1) ?hd (cs := #[.slice A0_0 l0_0.length c0_0, .slice A0_1 l0_1.length c0_1]) (t := 36) ?hr ?_; (case hd => rfl); (case hg => rfl); (case hr => first | (go_simp; done) | (go_simp; rfl)); intro gb197 hg w2 hbox hb; have n0_ := Aside0.mk (below_step (by repeat (first | (with_reducible first | exact HB.out | apply below_alloc | apply pw_below_drewN | apply below_drew1) | exact HB.out)) hb); have n1_ := Aside0.mk (hbox); have n2_ := Aside0.mk ((by rw [hg]; exact (below_size (by repeat (first | (with_reducible first | exact HB.out | apply below_alloc | apply pw_below_drewN | apply below_drew1) | exact HB.out))) : w.heap.size ≤ gb197)); have n3_ := Aside0.mk ((by rw [hg]; exact (below_size (by repeat (first | (with_reducible first | exact HB.out | apply below_alloc | apply pw_below_drewN | apply below_drew1) | exact HB.out))) : w.heap.size ≤ gb197)); clear HB; have HB := n0_; have BK197 := n1_; have GW197 := n2_; have GE197 := n3_; clear n0_ n1_ n2_ n3_; clear hb hbox hg))
  go_loopg [3, 4] k (fun kq v3 v4 w' => ∃ (x3_1 : Int) (x4_1 : Int), v3 = .int .i64 x3_1 ∧ v4 = .int .i64 x4_1 ∧ Aside0 (squintlaw08_beyond.l0 kq x3_1 x4_1 l0_0 l0_1 = some r) ∧ Aside0 (kq ≤ k) ∧ Aside0 (w'.heap[gb197]? = some (.cells #[(.slice A0_0 l0_0.length c0_0), (.slice A0_1 l0_1.length c0_1)] 36 (0, 0))) ∧ Aside0 (Below w.heap.size w w'))
  case atStart => exact ⟨(0), (0), (by first | rfl | (simp; done) | (simp [*]; done)), (by first | rfl | (simp; done) | (simp [*]; done)), H', ⟨Nat.le_refl _⟩, ⟨by (with_reducible repeat (first | refine blk_drewN ?_ _ | refine blk_drew ?_ | refine blk_alloc ?_ _)); exact BK197.out⟩, ⟨by repeat (first | (with_reducible first | exact HB.out | apply below_alloc | apply pw_below_drewN | apply below_drew1 | refine below_set ?_ GE197.out) | exact HB.out)⟩⟩
  case round =>
    clear H'
    try clear c2
    try clear p2
    obtain ⟨x3_1, x4_1, rfl, rfl, HA, HK1, BK197, HB⟩ := hrel
    cases gk with
    | zero => exact absurd HA.out (by simp [squintlaw08_beyond.l0])
    | succ k1 =>
      have H := HA.out
      clear HA
      simp only [squintlaw08_beyond.l0] at H
      have HC3 := Aside0.mk H
      clear H
      go_upto_region 3 with (fail)
      go_cut [15] (fun v15 wc => ∃ (kq : Nat) (x15_2 : Bool), v15 = .bool x15_2 ∧ Aside0 (squintlaw08_beyond.j1 kq x3_1 x4_1 x15_2 l0_0 l0_1 = some r) ∧ Aside0 (kq ≤ k1) ∧ Aside0 (wc.heap[gb197]? = some (.cells #[(.slice A0_0 l0_0.length c0_0), (.slice A0_1 l0_1.length c0_1)] 36 (0, 0))) ∧ Aside0 (Below w.heap.size w wc))
      case first =>
        have H := HC3.out
        clear HC3
        by_cases c4 : x4_1 < (l0_1.length : Int)
        · rw [if_pos c4] at H
          have c4b0 : decide (x4_1 < (l0_1.length : Int)) = true := decide_eq_true c4
          clear c4
          (first | rw [c4b0] | (simp only [i64_w, i32_w]; rw [c4b0]) | skip)
          have H' := Aside0.mk H
          clear H
          have hcz5_0 : wr.cell? ⟨gb197, 0, none⟩ = some (.slice A0_0 l0_0.length c0_0) := (blk_cell BK197.out 0).trans rfl
          have hcz5_1 : wr.cell? ⟨gb197, 1, none⟩ = some (.slice A0_1 l0_1.length c0_1) := (blk_cell BK197.out 1).trans rfl
          have hfz5_0 := blk_frozen BK197.out 0
          have hfz5_1 := blk_frozen BK197.out 1
          go_wp2
          go_meet
          case rel => exact ⟨_, (decide (x3_1 ≤ 2147483647)), (by first | rfl | (simp; done) | (simp [*]; done)), H', ⟨by have := HK1.out; first | omega | exact Nat.le_refl _⟩, ⟨by (with_reducible repeat (first | refine blk_drewN ?_ _ | refine blk_drew ?_ | refine blk_alloc ?_ _)); exact BK197.out⟩, ⟨by repeat (first | (with_reducible first | exact HB.out | apply below_alloc | apply pw_below_drewN | apply below_drew1 | refine below_set ?_ GE197.out) | exact HB.out)⟩⟩
        · rw [if_neg c4] at H
          have c4b0 : decide (x4_1 < (l0_1.length : Int)) = false := decide_eq_false c4
          clear c4
          (first | rw [c4b0] | (simp only [i64_w, i32_w]; rw [c4b0]) | skip)
          have H' := Aside0.mk H
          clear H
          have hcz6_0 : wr.cell? ⟨gb197, 0, none⟩ = some (.slice A0_0 l0_0.length c0_0) := (blk_cell BK197.out 0).trans rfl
          have hcz6_1 : wr.cell? ⟨gb197, 1, none⟩ = some (.slice A0_1 l0_1.length c0_1) := (blk_cell BK197.out 1).trans rfl
          have hfz6_0 := blk_frozen BK197.out 0
          have hfz6_1 := blk_frozen BK197.out 1
          go_wp2
          go_meet
          case rel => exact ⟨_, (false), (by first | rfl | (simp; done) | (simp [*]; done)), H', ⟨by have := HK1.out; first | omega | exact Nat.le_refl _⟩, ⟨by (with_reducible repeat (first | refine blk_drewN ?_ _ | refine blk_drew ?_ | refine blk_alloc ?_ _)); exact BK197.out⟩, ⟨by repeat (first | (with_reducible first | exact HB.out | apply below_alloc | apply pw_below_drewN | apply below_drew1 | refine below_set ?_ GE197.out) | exact HB.out)⟩⟩
      case rest =>
        clear HC3
        try clear c2
        try clear p2
        try clear c4
        try clear c4b0
        try clear hcz5_0
        try clear hcz5_1
        try clear hcz6_0
        try clear hcz6_1
        try clear hfz5_0
        try clear hfz5_1
        try clear hfz6_0
        try clear hfz6_1
        try clear p2
        obtain ⟨kq, x15_2, rfl, HA, HJ2, BK197, HB⟩ := hcut
        cases kq with
        | zero => exact absurd HA.out (by simp [squintlaw08_beyond.j1])
        | succ kj2 =>
          have H := HA.out
          clear HA
          simp only [squintlaw08_beyond.j1] at H
          by_cases c7 : x15_2 = true
          · subst c7
            have H1 : ((squintlaw08_more.f x3_1 40).bind fun t198 => (if 0 ≤ x4_1 then (if x4_1 < (l0_1.length : Int) then ((squintlaw08_many.f (((rd_T54 l0_1 x4_1).f1).length : Int)).bind fun t200 => ((squintlaw08_more.f t198 t200).bind fun t201 => (squintlaw08_beyond.l0 kj2 t201 (wrap64 (x4_1 + 1)) l0_0 l0_1))) else (none)) else (none))) = some r := by rw [if_pos rfl] at H; exact H
            clear H
            have H := H1
            clear H1
            replace H := Option.bind_eq_some_iff.mp H
            obtain ⟨t198, A80, H⟩ := H
            replace H : (if 0 ≤ x4_1 then (if x4_1 < (l0_1.length : Int) then ((squintlaw08_many.f (((rd_T54 l0_1 x4_1).f1).length : Int)).bind fun t200 => ((squintlaw08_more.f t198 t200).bind fun t201 => (squintlaw08_beyond.l0 kj2 t201 (wrap64 (x4_1 + 1)) l0_0 l0_1))) else (none)) else (none)) = some r := H
            have A8 := Aside0.mk A80
            clear A80
            by_cases c9 : 0 ≤ x4_1
            · rw [if_pos c9] at H
              have c9b0 : decide (0 ≤ x4_1) = true := decide_eq_true c9
              clear c9
              by_cases c10 : x4_1 < (l0_1.length : Int)
              · rw [if_pos c10] at H
                have c10b0 : decide (x4_1 < (l0_1.length : Int)) = true := decide_eq_true c10
                clear c10
                replace H := Option.bind_eq_some_iff.mp H
                obtain ⟨t200, A110, H⟩ := H
                replace H : ((squintlaw08_more.f t198 t200).bind fun t201 => (squintlaw08_beyond.l0 kj2 t201 (wrap64 (x4_1 + 1)) l0_0 l0_1)) = some r := H
                have A11 := Aside0.mk A110
                clear A110
                replace H := Option.bind_eq_some_iff.mp H
                obtain ⟨t201, A120, H⟩ := H
                replace H : (squintlaw08_beyond.l0 kj2 t201 (wrap64 (x4_1 + 1)) l0_0 l0_1) = some r := H
                have A12 := Aside0.mk A120
                clear A120
                have H' := Aside0.mk H
                clear H
                go_wp2_with (first | ((with_reducible refine gate_callee (f := 34) rfl ?_); refine goesL_ (some 19) rfl rfl Tryd.func34 (by kernel_rfl) rfl #[.int .i64 x3_1, .int .i64 40] rfl (by (try simp only [List.map_toArray, List.map_cons, List.map_nil]); first | done | rfl | (simp only [List.length_drop, List.length_take]; rfl)) ?_; (with_reducible refine (squintlaw08_more.calls x3_1 40 t198 _ A8.out).mono ?_); rintro e w' ⟨rfl, ⟨nd, rfl⟩⟩; refine ⟨_, rfl, ?_⟩; have hcz13_0 : wc.cell? ⟨gb197, 0, none⟩ = some (.slice A0_0 l0_0.length c0_0) := (blk_cell BK197.out 0).trans rfl; have hcz13_1 : wc.cell? ⟨gb197, 1, none⟩ = some (.slice A0_1 l0_1.length c0_1) := (blk_cell BK197.out 1).trans rfl; have hfz13_0 := blk_frozen BK197.out 0; have hfz13_1 := blk_frozen BK197.out 1; have p199 : 0 ≤ (x4_1 : Int) := of_decide_eq_true (by first | (with_reducible assumption) | assumption); have q199 : x4_1 < (l0_1.length : Int) := of_decide_eq_true (by first | (with_reducible assumption) | assumption); obtain ⟨ad199, A199_1, c199_1, e199, hx199_0, hx199_1, hx199_2, hl199_1, hi199_1⟩ := at_T54 HR0_1.out x4_1 p199 q199; cases e199; replace hx199_0 := (HB.out.cell (World.block_lt_of_cell? w _ hx199_0)).trans hx199_0; replace hx199_1 := (HB.out.cell (World.block_lt_of_cell? w _ hx199_1)).trans hx199_1; replace hx199_2 := (HB.out.cell (World.block_lt_of_cell? w _ hx199_2)).trans hx199_2; have HR199_1 := Aside0.mk hi199_1; have HC199_1 := Aside0.mk hl199_1; clear hi199_1 hl199_1; replace p199 := eq_true p199; replace q199 := eq_true q199) | ((with_reducible refine gate_callee (f := 35) rfl ?_); refine goesL_ (some 28) rfl rfl Tryd.func35 (by kernel_rfl) rfl #[.int .i64 (((rd_T54 l0_1 x4_1).f1).length : Int)] rfl (by (try simp only [List.map_toArray, List.map_cons, List.map_nil]); first | done | rfl | (simp only [List.length_drop, List.length_take]; rfl)) ?_; (with_reducible refine (squintlaw08_many.calls (((rd_T54 l0_1 x4_1).f1).length : Int) t200 _ A11.out).mono ?_); rintro e w' ⟨rfl, ⟨nd, rfl⟩⟩; refine ⟨_, rfl, ?_⟩) | ((with_reducible refine gate_callee (f := 34) rfl ?_); refine goesL_ (some 29) rfl rfl Tryd.func34 (by kernel_rfl) rfl #[.int .i64 t198, .int .i64 t200] rfl (by (try simp only [List.map_toArray, List.map_cons, List.map_nil]); first | done | rfl | (simp only [List.length_drop, List.length_take]; rfl)) ?_; (with_reducible refine (squintlaw08_more.calls t198 t200 t201 _ A12.out).mono ?_); rintro e w' ⟨rfl, ⟨nd, rfl⟩⟩; refine ⟨_, rfl, ?_⟩))
                go_roundg kj2
                case measure => have := HK1.out; have := HJ2.out; omega
                case rel => exact ⟨(t201), (wrap64 (x4_1 + 1)), (by first | rfl | (simp; done) | (simp [*]; done)), (by first | rfl | (simp; done) | (simp [*]; done)), H', ⟨by have := HK1.out; have := HJ2.out; omega⟩, ⟨by (with_reducible repeat (first | refine blk_drewN ?_ _ | refine blk_drew ?_ | refine blk_alloc ?_ _)); exact BK197.out⟩, ⟨by repeat (first | (with_reducible first | exact HB.out | apply below_alloc | apply pw_below_drewN | apply below_drew1 | refine below_set ?_ GE197.out) | exact HB.out)⟩⟩
              · rw [if_neg c10] at H
                exact absurd H (by simp)
            · rw [if_neg c9] at H
              exact absurd H (by simp)
          · replace c7 := Bool.eq_false_iff.mpr c7
            subst c7
            have H1 : (squintlaw08_beyond.l1 kj2 x3_1 0 l0_0 l0_1) = some r := by rw [if_neg (show ¬ (false = true) by decide)] at H; exact H
            clear H
            have H := H1
            clear H1
            have H' := Aside0.mk H
            clear H
            go_wp2
            go_loopg [3, 5] kj2 (fun kq v3 v5 w' => ∃ (x3_3 : Int) (x5_3 : Int), v3 = .int .i64 x3_3 ∧ v5 = .int .i64 x5_3 ∧ Aside0 (squintlaw08_beyond.l1 kq x3_3 x5_3 l0_0 l0_1 = some r) ∧ Aside0 (kq ≤ kj2) ∧ Aside0 (w'.heap[gb197]? = some (.cells #[(.slice A0_0 l0_0.length c0_0), (.slice A0_1 l0_1.length c0_1)] 36 (0, 0))) ∧ Aside0 (Below w.heap.size w w'))
            case atStart => exact ⟨(x3_1), (0), (by first | rfl | (simp; done) | (simp [*]; done)), (by first | rfl | (simp; done) | (simp [*]; done)), H', ⟨Nat.le_refl _⟩, ⟨by (with_reducible repeat (first | refine blk_drewN ?_ _ | refine blk_drew ?_ | refine blk_alloc ?_ _)); exact BK197.out⟩, ⟨by repeat (first | (with_reducible first | exact HB.out | apply below_alloc | apply pw_below_drewN | apply below_drew1 | refine below_set ?_ GE197.out) | exact HB.out)⟩⟩
            case round =>
              clear H'
              try clear c1
              try clear p1
              try clear q1
              try clear hx1
              try clear c2
              try clear p2
              try clear c3
              try clear c4
              try clear c4b0
              try clear p6
              try clear c7
              try clear c9
              try clear c9b0
              try clear c10
              try clear c10b0
              try clear hcz13_0
              try clear hcz13_1
              try clear hcz5_0
              try clear hcz5_1
              try clear hcz6_0
              try clear hcz6_1
              try clear hfz13_0
              try clear hfz13_1
              try clear hfz5_0
              try clear hfz5_1
              try clear hfz6_0
              try clear hfz6_1
              try clear hx199_0
              try clear hx199_1
              try clear hx199_2
              try clear p199
              try clear p2
              try clear q199
              obtain ⟨x3_3, x5_3, rfl, rfl, HA, HK3, BK197, HB⟩ := hrel
              cases gk with
              | zero => exact absurd HA.out (by simp [squintlaw08_beyond.l1])
              | succ k3 =>
                have H := HA.out
                clear HA
                simp only [squintlaw08_beyond.l1] at H
                have HC14 := Aside0.mk H
                clear H
                go_upto_region 8 with (fail)
                go_cut [38] (fun v38 wc => ∃ (kq : Nat) (x38_13 : Bool), v38 = .bool x38_13 ∧ Aside0 (squintlaw08_beyond.j3 kq x3_3 x5_3 x38_13 l0_0 l0_1 = some r) ∧ Aside0 (kq ≤ k3) ∧ Aside0 (wc.heap[gb197]? = some (.cells #[(.slice A0_0 l0_0.length c0_0), (.slice A0_1 l0_1.length c0_1)] 36 (0, 0))) ∧ Aside0 (Below w.heap.size w wc))
                case first =>
                  have H := HC14.out
                  clear HC14
                  by_cases c15 : x5_3 < (l0_0.length : Int)
                  · rw [if_pos c15] at H
                    have c15b0 : decide (x5_3 < (l0_0.length : Int)) = true := decide_eq_true c15
                    clear c15
                    (first | rw [c15b0] | (simp only [i64_w, i32_w]; rw [c15b0]) | skip)
                    have H' := Aside0.mk H
                    clear H
                    have hcz16_0 : wr.cell? ⟨gb197, 0, none⟩ = some (.slice A0_0 l0_0.length c0_0) := (blk_cell BK197.out 0).trans rfl
                    have hcz16_1 : wr.cell? ⟨gb197, 1, none⟩ = some (.slice A0_1 l0_1.length c0_1) := (blk_cell BK197.out 1).trans rfl
                    have hfz16_0 := blk_frozen BK197.out 0
                    have hfz16_1 := blk_frozen BK197.out 1
                    go_wp2
                    go_meet
                    case rel => exact ⟨_, (decide (x3_3 ≤ 2147483647)), (by first | rfl | (simp; done) | (simp [*]; done)), H', ⟨by have := HK1.out; have := HJ2.out; have := HK3.out; first | omega | exact Nat.le_refl _⟩, ⟨by (with_reducible repeat (first | refine blk_drewN ?_ _ | refine blk_drew ?_ | refine blk_alloc ?_ _)); exact BK197.out⟩, ⟨by repeat (first | (with_reducible first | exact HB.out | apply below_alloc | apply pw_below_drewN | apply below_drew1 | refine below_set ?_ GE197.out) | exact HB.out)⟩⟩
                  · rw [if_neg c15] at H
                    have c15b0 : decide (x5_3 < (l0_0.length : Int)) = false := decide_eq_false c15
                    clear c15
                    (first | rw [c15b0] | (simp only [i64_w, i32_w]; rw [c15b0]) | skip)
                    have H' := Aside0.mk H
                    clear H
                    have hcz17_0 : wr.cell? ⟨gb197, 0, none⟩ = some (.slice A0_0 l0_0.length c0_0) := (blk_cell BK197.out 0).trans rfl
                    have hcz17_1 : wr.cell? ⟨gb197, 1, none⟩ = some (.slice A0_1 l0_1.length c0_1) := (blk_cell BK197.out 1).trans rfl
                    have hfz17_0 := blk_frozen BK197.out 0
                    have hfz17_1 := blk_frozen BK197.out 1
                    go_wp2
                    go_meet
                    case rel => exact ⟨_, (false), (by first | rfl | (simp; done) | (simp [*]; done)), H', ⟨by have := HK1.out; have := HJ2.out; have := HK3.out; first | omega | exact Nat.le_refl _⟩, ⟨by (with_reducible repeat (first | refine blk_drewN ?_ _ | refine blk_drew ?_ | refine blk_alloc ?_ _)); exact BK197.out⟩, ⟨by repeat (first | (with_reducible first | exact HB.out | apply below_alloc | apply pw_below_drewN | apply below_drew1 | refine below_set ?_ GE197.out) | exact HB.out)⟩⟩
                case rest =>
                  clear HC14
                  try clear c1
                  try clear p1
                  try clear q1
                  try clear hx1
                  try clear c2
                  try clear p2
                  try clear c3
                  try clear c4
                  try clear c4b0
                  try clear p6
                  try clear c7
                  try clear c9
                  try clear c9b0
                  try clear c10
                  try clear c10b0
                  try clear c15
                  try clear c15b0
                  try clear hcz13_0
                  try clear hcz13_1
                  try clear hcz16_0
                  try clear hcz16_1
                  try clear hcz17_0
                  try clear hcz17_1
                  try clear hcz5_0
                  try clear hcz5_1
                  try clear hcz6_0
                  try clear hcz6_1
                  try clear hfz13_0
                  try clear hfz13_1
                  try clear hfz16_0
                  try clear hfz16_1
                  try clear hfz17_0
                  try clear hfz17_1
                  try clear hfz5_0
                  try clear hfz5_1
                  try clear hfz6_0
                  try clear hfz6_1
                  try clear hx199_0
                  try clear hx199_1
                  try clear hx199_2
                  try clear p1
                  try clear p199
                  try clear p2
                  try clear p6
                  try clear q1
                  try clear q199
                  obtain ⟨kq, x38_13, rfl, HA, HJ13, BK197, HB⟩ := hcut
                  cases kq with
                  | zero => exact absurd HA.out (by simp [squintlaw08_beyond.j3])
                  | succ kj13 =>
                    have H := HA.out
                    clear HA
                    simp only [squintlaw08_beyond.j3] at H
                    by_cases c18 : x38_13 = true
                    · subst c18
                      have H1 : ((squintlaw08_more.f x3_3 100).bind fun t202 => (squintlaw08_beyond.l2 kj13 t202 x5_3 0 l0_0 l0_1)) = some r := by rw [if_pos rfl] at H; exact H
                      clear H
                      have H := H1
                      clear H1
                      replace H := Option.bind_eq_some_iff.mp H
                      obtain ⟨t202, A190, H⟩ := H
                      replace H : (squintlaw08_beyond.l2 kj13 t202 x5_3 0 l0_0 l0_1) = some r := H
                      have A19 := Aside0.mk A190
                      clear A190
                      have H' := Aside0.mk H
                      clear H
                      go_wp2_with (first | ((with_reducible refine gate_callee (f := 34) rfl ?_); refine goesL_ (some 42) rfl rfl Tryd.func34 (by kernel_rfl) rfl #[.int .i64 x3_3, .int .i64 100] rfl (by (try simp only [List.map_toArray, List.map_cons, List.map_nil]); first | done | rfl | (simp only [List.length_drop, List.length_take]; rfl)) ?_; (with_reducible refine (squintlaw08_more.calls x3_3 100 t202 _ A19.out).mono ?_); rintro e w' ⟨rfl, ⟨nd, rfl⟩⟩; refine ⟨_, rfl, ?_⟩))
                      go_loopg [3, 6] kj13 (fun kq v3 v6 w' => ∃ (x3_5 : Int) (x6_5 : Int), v3 = .int .i64 x3_5 ∧ v6 = .int .i64 x6_5 ∧ Aside0 (squintlaw08_beyond.l2 kq x3_5 x5_3 x6_5 l0_0 l0_1 = some r) ∧ Aside0 (kq ≤ kj13) ∧ Aside0 (w'.heap[gb197]? = some (.cells #[(.slice A0_0 l0_0.length c0_0), (.slice A0_1 l0_1.length c0_1)] 36 (0, 0))) ∧ Aside0 (Below w.heap.size w w'))
                      case atStart => exact ⟨(t202), (0), (by first | rfl | (simp; done) | (simp [*]; done)), (by first | rfl | (simp; done) | (simp [*]; done)), H', ⟨Nat.le_refl _⟩, ⟨by (with_reducible repeat (first | refine blk_drewN ?_ _ | refine blk_drew ?_ | refine blk_alloc ?_ _)); exact BK197.out⟩, ⟨by repeat (first | (with_reducible first | exact HB.out | apply below_alloc | apply pw_below_drewN | apply below_drew1 | refine below_set ?_ GE197.out) | exact HB.out)⟩⟩
                      case round =>
                        clear H'
                        try clear c1
                        try clear p1
                        try clear q1
                        try clear hx1
                        try clear c2
                        try clear p2
                        try clear c3
                        try clear c4
                        try clear c4b0
                        try clear p6
                        try clear c7
                        try clear c9
                        try clear c9b0
                        try clear c10
                        try clear c10b0
                        try clear c15
                        try clear c15b0
                        try clear c18
                        try clear c19
                        try clear p19
                        try clear q19
                        try clear hx19
                        try clear hcz13_0
                        try clear hcz13_1
                        try clear hcz16_0
                        try clear hcz16_1
                        try clear hcz17_0
                        try clear hcz17_1
                        try clear hcz5_0
                        try clear hcz5_1
                        try clear hcz6_0
                        try clear hcz6_1
                        try clear hfz13_0
                        try clear hfz13_1
                        try clear hfz16_0
                        try clear hfz16_1
                        try clear hfz17_0
                        try clear hfz17_1
                        try clear hfz5_0
                        try clear hfz5_1
                        try clear hfz6_0
                        try clear hfz6_1
                        try clear hx199_0
                        try clear hx199_1
                        try clear hx199_2
                        try clear p1
                        try clear p199
                        try clear p2
                        try clear p6
                        try clear q1
                        try clear q199
                        obtain ⟨x3_5, x6_5, rfl, rfl, HA, HK5, BK197, HB⟩ := hrel
                        cases gk with
                        | zero => exact absurd HA.out (by simp [squintlaw08_beyond.l2])
                        | succ k5 =>
                          have H := HA.out
                          clear HA
                          simp only [squintlaw08_beyond.l2] at H
                          have HC20 := Aside0.mk H
                          clear H
                          go_upto_region 12 with (fail)
                          go_cut [55] (fun v55 wc => ∃ (kq : Nat) (x55_19 : Bool), v55 = .bool x55_19 ∧ Aside0 (squintlaw08_beyond.j5 kq x3_5 x5_3 x6_5 x55_19 l0_0 l0_1 = some r) ∧ Aside0 (kq ≤ k5) ∧ Aside0 (wc.heap[gb197]? = some (.cells #[(.slice A0_0 l0_0.length c0_0), (.slice A0_1 l0_1.length c0_1)] 36 (0, 0))) ∧ Aside0 (Below w.heap.size w wc))
                          case first =>
                            have H := HC20.out
                            clear HC20
                            by_cases c21 : 0 ≤ x5_3
                            · rw [if_pos c21] at H
                              have c21b0 : decide (0 ≤ x5_3) = true := decide_eq_true c21
                              clear c21
                              (first | rw [c21b0] | (simp only [i64_w, i32_w]; rw [c21b0]) | skip)
                              by_cases c22 : x5_3 < (l0_0.length : Int)
                              · rw [if_pos c22] at H
                                have c22b0 : decide (x5_3 < (l0_0.length : Int)) = true := decide_eq_true c22
                                clear c22
                                by_cases c23 : x6_5 < (((rd_T57 l0_0 x5_3).f4).length : Int)
                                · rw [if_pos c23] at H
                                  have c23b0 : decide (x6_5 < (((rd_T57 l0_0 x5_3).f4).length : Int)) = true := decide_eq_true c23
                                  clear c23
                                  have H' := Aside0.mk H
                                  clear H
                                  have hcz24_0 : wr.cell? ⟨gb197, 0, none⟩ = some (.slice A0_0 l0_0.length c0_0) := (blk_cell BK197.out 0).trans rfl
                                  have hcz24_1 : wr.cell? ⟨gb197, 1, none⟩ = some (.slice A0_1 l0_1.length c0_1) := (blk_cell BK197.out 1).trans rfl
                                  have hfz24_0 := blk_frozen BK197.out 0
                                  have hfz24_1 := blk_frozen BK197.out 1
                                  have p203 : 0 ≤ (x5_3 : Int) := of_decide_eq_true (by first | (with_reducible assumption) | assumption)
                                  have q203 : x5_3 < (l0_0.length : Int) := of_decide_eq_true (by first | (with_reducible assumption) | assumption)
                                  obtain ⟨ad203, A203_4, c203_4, e203, hx203_0, hx203_1, hx203_2, hx203_3, hx203_4, hl203_4, hi203_4⟩ := at_T57 HR0_0.out x5_3 p203 q203
                                  cases e203
                                  replace hx203_0 := (HB.out.cell (World.block_lt_of_cell? w _ hx203_0)).trans hx203_0
                                  replace hx203_1 := (HB.out.cell (World.block_lt_of_cell? w _ hx203_1)).trans hx203_1
                                  replace hx203_2 := (HB.out.cell (World.block_lt_of_cell? w _ hx203_2)).trans hx203_2
                                  replace hx203_3 := (HB.out.cell (World.block_lt_of_cell? w _ hx203_3)).trans hx203_3
                                  replace hx203_4 := (HB.out.cell (World.block_lt_of_cell? w _ hx203_4)).trans hx203_4
                                  have HR203_4 := Aside0.mk hi203_4
                                  have HC203_4 := Aside0.mk hl203_4
                                  clear hi203_4 hl203_4
                                  replace p203 := eq_true p203
                                  replace q203 := eq_true q203
                                  go_wp2
                                  go_meet
                                  case rel => exact ⟨_, (decide (x3_5 ≤ 2147483647)), (by first | rfl | (simp; done) | (simp [*]; done)), H', ⟨by have := HK1.out; have := HJ2.out; have := HK3.out; have := HJ13.out; have := HK5.out; first | omega | exact Nat.le_refl _⟩, ⟨by (with_reducible repeat (first | refine blk_drewN ?_ _ | refine blk_drew ?_ | refine blk_alloc ?_ _)); exact BK197.out⟩, ⟨by repeat (first | (with_reducible first | exact HB.out | apply below_alloc | apply pw_below_drewN | apply below_drew1 | refine below_set ?_ GE197.out) | exact HB.out)⟩⟩
                                · rw [if_neg c23] at H
                                  have c23b0 : decide (x6_5 < (((rd_T57 l0_0 x5_3).f4).length : Int)) = false := decide_eq_false c23
                                  clear c23
                                  have H' := Aside0.mk H
                                  clear H
                                  have hcz25_0 : wr.cell? ⟨gb197, 0, none⟩ = some (.slice A0_0 l0_0.length c0_0) := (blk_cell BK197.out 0).trans rfl
                                  have hcz25_1 : wr.cell? ⟨gb197, 1, none⟩ = some (.slice A0_1 l0_1.length c0_1) := (blk_cell BK197.out 1).trans rfl
                                  have hfz25_0 := blk_frozen BK197.out 0
                                  have hfz25_1 := blk_frozen BK197.out 1
                                  have p203 : 0 ≤ (x5_3 : Int) := of_decide_eq_true (by first | (with_reducible assumption) | assumption)
                                  have q203 : x5_3 < (l0_0.length : Int) := of_decide_eq_true (by first | (with_reducible assumption) | assumption)
                                  obtain ⟨ad203, A203_4, c203_4, e203, hx203_0, hx203_1, hx203_2, hx203_3, hx203_4, hl203_4, hi203_4⟩ := at_T57 HR0_0.out x5_3 p203 q203
                                  cases e203
                                  replace hx203_0 := (HB.out.cell (World.block_lt_of_cell? w _ hx203_0)).trans hx203_0
                                  replace hx203_1 := (HB.out.cell (World.block_lt_of_cell? w _ hx203_1)).trans hx203_1
                                  replace hx203_2 := (HB.out.cell (World.block_lt_of_cell? w _ hx203_2)).trans hx203_2
                                  replace hx203_3 := (HB.out.cell (World.block_lt_of_cell? w _ hx203_3)).trans hx203_3
                                  replace hx203_4 := (HB.out.cell (World.block_lt_of_cell? w _ hx203_4)).trans hx203_4
                                  have HR203_4 := Aside0.mk hi203_4
                                  have HC203_4 := Aside0.mk hl203_4
                                  clear hi203_4 hl203_4
                                  replace p203 := eq_true p203
                                  replace q203 := eq_true q203
                                  go_wp2
                                  go_meet
                                  case rel => exact ⟨_, (false), (by first | rfl | (simp; done) | (simp [*]; done)), H', ⟨by have := HK1.out; have := HJ2.out; have := HK3.out; have := HJ13.out; have := HK5.out; first | omega | exact Nat.le_refl _⟩, ⟨by (with_reducible repeat (first | refine blk_drewN ?_ _ | refine blk_drew ?_ | refine blk_alloc ?_ _)); exact BK197.out⟩, ⟨by repeat (first | (with_reducible first | exact HB.out | apply below_alloc | apply pw_below_drewN | apply below_drew1 | refine below_set ?_ GE197.out) | exact HB.out)⟩⟩
                              · rw [if_neg c22] at H
                                exact absurd H (by simp)
                            · rw [if_neg c21] at H
                              exact absurd H (by simp)
                          case rest =>
                            clear HC20
                            try clear c1
                            try clear p1
                            try clear q1
                            try clear hx1
                            try clear c2
                            try clear p2
                            try clear q2
                            try clear hx2
                            try clear c3
                            try clear c4
                            try clear c4b0
                            try clear p6
                            try clear c7
                            try clear c9
                            try clear c9b0
                            try clear c10
                            try clear c10b0
                            try clear c15
                            try clear c15b0
                            try clear c18
                            try clear c19
                            try clear p19
                            try clear q19
                            try clear hx19
                            try clear c20
                            try clear p20
                            try clear q20
                            try clear hx20
                            try clear c21
                            try clear c21b0
                            try clear c22
                            try clear c22b0
                            try clear c23
                            try clear c23b0
                            try clear hcz13_0
                            try clear hcz13_1
                            try clear hcz16_0
                            try clear hcz16_1
                            try clear hcz17_0
                            try clear hcz17_1
                            try clear hcz24_0
                            try clear hcz24_1
                            try clear hcz25_0
                            try clear hcz25_1
                            try clear hcz5_0
                            try clear hcz5_1
                            try clear hcz6_0
                            try clear hcz6_1
                            try clear hfz13_0
                            try clear hfz13_1
                            try clear hfz16_0
                            try clear hfz16_1
                            try clear hfz17_0
                            try clear hfz17_1
                            try clear hfz24_0
                            try clear hfz24_1
                            try clear hfz25_0
                            try clear hfz25_1
                            try clear hfz5_0
                            try clear hfz5_1
                            try clear hfz6_0
                            try clear hfz6_1
                            try clear hx199_0
                            try clear hx199_1
                            try clear hx199_2
                            try clear hx203_0
                            try clear hx203_1
                            try clear hx203_2
                            try clear hx203_3
                            try clear hx203_4
                            try clear p1
                            try clear p19
                            try clear p199
                            try clear p2
                            try clear p203
                            try clear p6
                            try clear q1
                            try clear q19
                            try clear q199
                            try clear q203
                            obtain ⟨kq, x55_19, rfl, HA, HJ19, BK197, HB⟩ := hcut
                            cases kq with
                            | zero => exact absurd HA.out (by simp [squintlaw08_beyond.j5])
                            | succ kj19 =>
                              have H := HA.out
                              clear HA
                              simp only [squintlaw08_beyond.j5] at H
                              by_cases c26 : x55_19 = true
                              · subst c26
                                have H1 : ((squintlaw08_more.f x3_5 60).bind fun t204 => (if 0 ≤ x5_3 then (if x5_3 < (l0_0.length : Int) then (if 0 ≤ x6_5 then (if x6_5 < (((rd_T57 l0_0 x5_3).f4).length : Int) then ((squintlaw08_many.f (((rd_T28 ((rd_T57 l0_0 x5_3).f4) x6_5).f3).length : Int)).bind fun t207 => ((squintlaw08_more.f t204 t207).bind fun t208 => (squintlaw08_beyond.l2 kj19 t208 x5_3 (wrap64 (x6_5 + 1)) l0_0 l0_1))) else (none)) else (none)) else (none)) else (none))) = some r := by rw [if_pos rfl] at H; exact H
                                clear H
                                have H := H1
                                clear H1
                                replace H := Option.bind_eq_some_iff.mp H
                                obtain ⟨t204, A270, H⟩ := H
                                replace H : (if 0 ≤ x5_3 then (if x5_3 < (l0_0.length : Int) then (if 0 ≤ x6_5 then (if x6_5 < (((rd_T57 l0_0 x5_3).f4).length : Int) then ((squintlaw08_many.f (((rd_T28 ((rd_T57 l0_0 x5_3).f4) x6_5).f3).length : Int)).bind fun t207 => ((squintlaw08_more.f t204 t207).bind fun t208 => (squintlaw08_beyond.l2 kj19 t208 x5_3 (wrap64 (x6_5 + 1)) l0_0 l0_1))) else (none)) else (none)) else (none)) else (none)) = some r := H
                                have A27 := Aside0.mk A270
                                clear A270
                                by_cases c28 : 0 ≤ x5_3
                                · rw [if_pos c28] at H
                                  have c28b0 : decide (0 ≤ x5_3) = true := decide_eq_true c28
                                  clear c28
                                  by_cases c29 : x5_3 < (l0_0.length : Int)
                                  · rw [if_pos c29] at H
                                    have c29b0 : decide (x5_3 < (l0_0.length : Int)) = true := decide_eq_true c29
                                    clear c29
                                    by_cases c30 : 0 ≤ x6_5
                                    · rw [if_pos c30] at H
                                      have c30b0 : decide (0 ≤ x6_5) = true := decide_eq_true c30
                                      clear c30
                                      by_cases c31 : x6_5 < (((rd_T57 l0_0 x5_3).f4).length : Int)
                                      · rw [if_pos c31] at H
                                        have c31b0 : decide (x6_5 < (((rd_T57 l0_0 x5_3).f4).length : Int)) = true := decide_eq_true c31
                                        clear c31
                                        replace H := Option.bind_eq_some_iff.mp H
                                        obtain ⟨t207, A320, H⟩ := H
                                        replace H : ((squintlaw08_more.f t204 t207).bind fun t208 => (squintlaw08_beyond.l2 kj19 t208 x5_3 (wrap64 (x6_5 + 1)) l0_0 l0_1)) = some r := H
                                        have A32 := Aside0.mk A320
                                        clear A320
                                        replace H := Option.bind_eq_some_iff.mp H
                                        obtain ⟨t208, A330, H⟩ := H
                                        replace H : (squintlaw08_beyond.l2 kj19 t208 x5_3 (wrap64 (x6_5 + 1)) l0_0 l0_1) = some r := H
                                        have A33 := Aside0.mk A330
                                        clear A330
                                        have H' := Aside0.mk H
                                        clear H
                                        go_wp2_with (first | ((with_reducible refine gate_callee (f := 34) rfl ?_); refine goesL_ (some 59) rfl rfl Tryd.func34 (by kernel_rfl) rfl #[.int .i64 x3_5, .int .i64 60] rfl (by (try simp only [List.map_toArray, List.map_cons, List.map_nil]); first | done | rfl | (simp only [List.length_drop, List.length_take]; rfl)) ?_; (with_reducible refine (squintlaw08_more.calls x3_5 60 t204 _ A27.out).mono ?_); rintro e w' ⟨rfl, ⟨nd, rfl⟩⟩; refine ⟨_, rfl, ?_⟩; have hcz34_0 : wc.cell? ⟨gb197, 0, none⟩ = some (.slice A0_0 l0_0.length c0_0) := (blk_cell BK197.out 0).trans rfl; have hcz34_1 : wc.cell? ⟨gb197, 1, none⟩ = some (.slice A0_1 l0_1.length c0_1) := (blk_cell BK197.out 1).trans rfl; have hfz34_0 := blk_frozen BK197.out 0; have hfz34_1 := blk_frozen BK197.out 1; have p205 : 0 ≤ (x5_3 : Int) := of_decide_eq_true (by first | (with_reducible assumption) | assumption); have q205 : x5_3 < (l0_0.length : Int) := of_decide_eq_true (by first | (with_reducible assumption) | assumption); obtain ⟨ad205, A205_4, c205_4, e205, hx205_0, hx205_1, hx205_2, hx205_3, hx205_4, hl205_4, hi205_4⟩ := at_T57 HR0_0.out x5_3 p205 q205; cases e205; replace hx205_0 := (HB.out.cell (World.block_lt_of_cell? w _ hx205_0)).trans hx205_0; replace hx205_1 := (HB.out.cell (World.block_lt_of_cell? w _ hx205_1)).trans hx205_1; replace hx205_2 := (HB.out.cell (World.block_lt_of_cell? w _ hx205_2)).trans hx205_2; replace hx205_3 := (HB.out.cell (World.block_lt_of_cell? w _ hx205_3)).trans hx205_3; replace hx205_4 := (HB.out.cell (World.block_lt_of_cell? w _ hx205_4)).trans hx205_4; have HR205_4 := Aside0.mk hi205_4; have HC205_4 := Aside0.mk hl205_4; clear hi205_4 hl205_4; replace p205 := eq_true p205; replace q205 := eq_true q205; have p206 : 0 ≤ (x6_5 : Int) := of_decide_eq_true (by first | (with_reducible assumption) | assumption); have q206 : x6_5 < (((rd_T57 l0_0 x5_3).f4).length : Int) := of_decide_eq_true (by first | (with_reducible assumption) | assumption); obtain ⟨ad206, A206_3, c206_3, e206, hx206_0, hx206_1, hx206_2, hx206_3, hl206_3, hi206_3⟩ := at_T28 HR205_4.out x6_5 p206 q206; cases e206; replace hx206_0 := (HB.out.cell (World.block_lt_of_cell? w _ hx206_0)).trans hx206_0; replace hx206_1 := (HB.out.cell (World.block_lt_of_cell? w _ hx206_1)).trans hx206_1; replace hx206_2 := (HB.out.cell (World.block_lt_of_cell? w _ hx206_2)).trans hx206_2; replace hx206_3 := (HB.out.cell (World.block_lt_of_cell? w _ hx206_3)).trans hx206_3; have HR206_3 := Aside0.mk hi206_3; have HC206_3 := Aside0.mk hl206_3; clear hi206_3 hl206_3; replace p206 := eq_true p206; replace q206 := eq_true q206) | ((with_reducible refine gate_callee (f := 35) rfl ?_); refine goesL_ (some 72) rfl rfl Tryd.func35 (by kernel_rfl) rfl #[.int .i64 (((rd_T28 ((rd_T57 l0_0 x5_3).f4) x6_5).f3).length : Int)] rfl (by (try simp only [List.map_toArray, List.map_cons, List.map_nil]); first | done | rfl | (simp only [List.length_drop, List.length_take]; rfl)) ?_; (with_reducible refine (squintlaw08_many.calls (((rd_T28 ((rd_T57 l0_0 x5_3).f4) x6_5).f3).length : Int) t207 _ A32.out).mono ?_); rintro e w' ⟨rfl, ⟨nd, rfl⟩⟩; refine ⟨_, rfl, ?_⟩) | ((with_reducible refine gate_callee (f := 34) rfl ?_); refine goesL_ (some 73) rfl rfl Tryd.func34 (by kernel_rfl) rfl #[.int .i64 t204, .int .i64 t207] rfl (by (try simp only [List.map_toArray, List.map_cons, List.map_nil]); first | done | rfl | (simp only [List.length_drop, List.length_take]; rfl)) ?_; (with_reducible refine (squintlaw08_more.calls t204 t207 t208 _ A33.out).mono ?_); rintro e w' ⟨rfl, ⟨nd, rfl⟩⟩; refine ⟨_, rfl, ?_⟩))
                                        go_roundg kj19
                                        case measure => have := HK1.out; have := HJ2.out; have := HK3.out; have := HJ13.out; have := HK5.out; have := HJ19.out; omega
                                        case rel => exact ⟨(t208), (wrap64 (x6_5 + 1)), (by first | rfl | (simp; done) | (simp [*]; done)), (by first | rfl | (simp; done) | (simp [*]; done)), H', ⟨by have := HK1.out; have := HJ2.out; have := HK3.out; have := HJ13.out; have := HK5.out; have := HJ19.out; omega⟩, ⟨by (with_reducible repeat (first | refine blk_drewN ?_ _ | refine blk_drew ?_ | refine blk_alloc ?_ _)); exact BK197.out⟩, ⟨by repeat (first | (with_reducible first | exact HB.out | apply below_alloc | apply pw_below_drewN | apply below_drew1 | refine below_set ?_ GE197.out) | exact HB.out)⟩⟩
                                      · rw [if_neg c31] at H
                                        exact absurd H (by simp)
                                    · rw [if_neg c30] at H
                                      exact absurd H (by simp)
                                  · rw [if_neg c29] at H
                                    exact absurd H (by simp)
                                · rw [if_neg c28] at H
                                  exact absurd H (by simp)
                              · replace c26 := Bool.eq_false_iff.mpr c26
                                subst c26
                                have H1 : (squintlaw08_beyond.l1 kj19 x3_5 (wrap64 (x5_3 + 1)) l0_0 l0_1) = some r := by rw [if_neg (show ¬ (false = true) by decide)] at H; exact H
                                clear H
                                have H := H1
                                clear H1
                                have H' := Aside0.mk H
                                clear H
                                go_wp2
                                go_roundg kj19
                                case measure => have := HK1.out; have := HJ2.out; have := HK3.out; have := HJ13.out; have := HK5.out; have := HJ19.out; omega
                                case rel => exact ⟨(x3_5), (wrap64 (x5_3 + 1)), (by first | rfl | (simp; done) | (simp [*]; done)), (by first | rfl | (simp; done) | (simp [*]; done)), H', ⟨by have := HK1.out; have := HJ2.out; have := HK3.out; have := HJ13.out; have := HK5.out; have := HJ19.out; omega⟩, ⟨by (with_reducible repeat (first | refine blk_drewN ?_ _ | refine blk_drew ?_ | refine blk_alloc ?_ _)); exact BK197.out⟩, ⟨by repeat (first | (with_reducible first | exact HB.out | apply below_alloc | apply pw_below_drewN | apply below_drew1 | refine below_set ?_ GE197.out) | exact HB.out)⟩⟩
                    · replace c18 := Bool.eq_false_iff.mpr c18
                      subst c18
                      have H1 : (some (decide (x3_3 > 2147483647))) = some r := by rw [if_neg (show ¬ (false = true) by decide)] at H; exact H
                      clear H
                      have H := H1
                      clear H1
                      obtain rfl := Option.some.inj H
                      go_wp2
                      go_ret
                      exact ⟨by first | rfl | (simp [errW_none, errW_some] <;> rfl) | (simp [*, errW_none, errW_some] <;> rfl), by repeat (first | (with_reducible first | exact HB.out | apply below_alloc | apply pw_below_drewN | apply below_drew1 | refine below_set ?_ GE197.out) | exact HB.out)⟩
end Go.Proofs.YtfkfgjmhcfagkaaDoor.Print
end
