/- script.reads at the first two lines. -/
import Derived.Test.YtmoebchaiokamaaDoorGivenJ0
import Derived.Deep.RegionHeld3
namespace Go.Proofs.YtmoebchaiokamaaDoor.Given
open Go.RowKit Go.Proofs.YtmoebchaiokamaaDoorW.PrintWords Go.Proofs.YtmoebchaiokamaaDoorW.PrintLast Go.Proofs.YtmoebchaiokamaaDoorW.PrintMore Go.Proofs.YtmoebchaiokamaaDoor.Print
set_option linter.unusedVariables false
set_option linter.unusedSimpArgs false
/-- The slice of a line's words behind the first one. -/
theorem words_cut (bw : Nat) (t : ByteArray) (r : List ByteArray) : ∃ A1, (∀ W : World, (Instr.slice 52 (.slice (some ⟨bw, 0, none⟩) (r.length + 1) (r.length + 1)) (some (.int .i64 1)) none none).run Tryd.prog W = .ok (.slice A1 r.length r.length) W) ∧ (∀ W : World, W.heap[bw]? = some (.cells ((t :: r).map Value.string).toArray 9 (0, 0)) → WordsIn W A1 r) ∧ ∀ ad, A1 = some ad → ad.block = bw := by
  obtain ⟨i0, hi0, _, hsz, _⟩ := info_parts info9
  have h0 := cut_from (P := Tryd.prog) 52 9 .i64 Tryd.underlying52 hi0 1 hsz (some ⟨bw, 0, none⟩) (r.length + 1) (r.length + 1) 1 (by omega) (by omega)
  cases r with
  | nil => exact ⟨some ⟨bw, 0, none⟩, fun W => by simpa using h0 W, fun W hb j u hj => by simp at hj, fun ad had => (congrArg Addr.block (Option.some.inj had)).symm⟩
  | cons b r =>
    refine ⟨some ((⟨bw, 0, none⟩ : Addr).add 1), fun W => by simpa using h0 W, fun W hb j u hj => ?_, fun ad had => ?_⟩
    · refine ⟨_, rfl, ?_⟩
      rw [add_one_add]
      obtain ⟨ad, ha, hcell⟩ := words_blk hb (1 + j) u (by rw [Nat.add_comm]; exact hj)
      exact (congrArg (fun q => W.cell? (q.add (1 + j))) (Option.some.inj ha)).trans hcell
    · exact (congrArg Addr.block (Option.some.inj had)).symm.trans (add_block _ _)
section
variable {P : Program} {ops : Array Oper} {Q : Exit → Act → World → Prop}
/-- A call of a function value as one step of a region that draws. -/
theorem goesF_ {oi : Oper} {N : Option Tmp} {a : Act} {w : World} {K : Act → World → Prop} {f : FuncId} {fn : Func} {cv : Operand} {xs : Array Operand} {ts : Array TypeId} {cap : Array Value} (hf : P.funcs[f]? = some fn) (hname : (fn.name == "runtime.NumGoroutine") = false) (hb : fn.body.isSome = true) (args : Array Value)
    (hw : Region.wanted oi (yielded ops a.tmps) = true) (hN : oi.dst = N) (hop : oi.op = .call { callee := .value cv, args := xs, argTypes := ts }) (hcv : a.eval cv = .func (.func f) #[] cap) (hargs : xs.map a.eval ++ cap = args)
    (h : Calls P f args w fun e w' => ∃ v, e = .returned v ∧ K (a.put N v) w') : if Region.wanted oi (yielded ops a.tmps) = true then Oper.wp P oi a w K Q else K (a.put N undef) w := by
  refine call_ f args hw hN ?_ h
  have he := enters_ hf hname hb args w
  unfold execOp
  simp [hop, resolve, Deferred.ofValue, invoke, hcv, hargs, he]
theorem store_step {o : Oper} {a : Act} {Kc : Act → World → Prop} {W w1 : World} (hw : Region.wanted o (yielded ops a.tmps) = true) (hN : o.dst = none) (hrun : (execOp a.eval o).run P W = .ok .skip w1) (h : Kc a w1) : if Region.wanted o (yielded ops a.tmps) = true then Oper.wp P o a W Kc Q else Kc (a.put o.dst undef) W := by
  rw [if_pos hw]
  unfold Oper.wp
  rw [hrun]
  show Kc (a.put o.dst undef) w1
  rw [hN]
  exact h
end
def q5T : Bool × List (List Nat × List Nat) := (true, [([], []), ([], []), ([1], [1]), ([2], [2]), ([], []), ([4], [4]), ([5], [5]), ([], []), ([7], [7]), ([8], [8]), ([], []), ([10], [10]), ([11], [11]), ([], []), ([13], [13]), ([14], [14]), ([], []), ([16], [16]), ([17], [17]), ([], []), ([19], [19]), ([20], [20]), ([3, 6, 9, 12, 15, 18, 21], [3, 6, 9, 12, 15, 18, 21]), ([0, 22], [0, 22]), ([23, 23, 0, 1, 2, 3, 4, 5, 6, 7, 8, 9, 10, 11, 12, 13, 14, 15, 16, 17, 18, 19, 20, 21, 22, 23], [23])])
def q5B : List Nat := [0, 0, 2, 6, 0, 16, 48, 0, 128, 384, 0, 1024, 3072, 0, 8192, 24576, 0, 65536, 196608, 0, 524288, 1572864, 4194302, 8388607, 16777215]
theorem q5tab : rtab .any (opsOf Tryd.f19 5) = q5T := by kernel_rfl
theorem q5bits : waitsOk q5T.2 q5B = true := by kernel_rfl
set_option maxRecDepth 100000 in
set_option maxHeartbeats 8000000 in
theorem reads_0 (g : Nat) (s : Scr) (v : Value) (l : ByteArray) (w w0 : World) (t : ByteArray) (r : List ByteArray)
    (hL : LW w0) (hB0 : Below w0.heap.size w0 w) (hg0 : w0.heap.size ≤ g) (hg : w.heap[g]? = some (.cells (scC s.lim s.reap v) 26 (0, 0))) (hp : Kd.R k29 29 w (g + 1) (fun _ => True) v s.picks) (hs : l.size < 4294967281) (hw : wordsL l = t :: r) (hq : t.toList = wLimits) :
    Calls Tryd.prog 19 #[.pointer (some ⟨g, 0, none⟩), .int .i64 0, .string l] w (ReadsSays w g (readsW 0 s t.toList r)) := by
  have HR : Aside0 (readsW 0 s t.toList r = (match takeOf 7 r with | none => .error 171 | some ns => .ok ⟨limOf ns, s.reap, s.picks⟩)) := ⟨by unfold readsW; rw [if_pos rfl, if_pos hq]; rfl⟩
  generalize readsW 0 s t.toList r = rr at HR ⊢
  have hq : (t.toList == [108, 105, 109, 105, 116, 115]) = true := beq_iff_eq.2 hq
  have HL := Aside0.mk hL
  have HB0 := Aside0.mk hB0
  have HG0 := Aside0.mk hg0
  have BG := Aside0.mk hg
  have HS := Aside0.mk hs
  have HW := Aside0.mk hw
  have HP := Aside0.mk hp
  have HN : Aside0 (Lib.countB l space = r.length) := ⟨by have := words_length l _ rfl; rw [hw, List.length_cons] at this; omega⟩
  have HRL : Aside0 (r.length ≤ 4294967296) := ⟨by have := count_le l; have := HN.out; omega⟩
  have HSZ : Aside0 (∀ t ∈ r, t.size ≤ 281474976710656) := ⟨fun u hu => by have := word_size l u (by rw [hw]; exact List.mem_cons_of_mem _ hu); omega⟩
  have HLW : Aside0 (LW w) := ⟨HL.out.below HB0.out⟩
  have GW := Aside0.mk (blk_lt hg)
  obtain ⟨bw, hbw⟩ : ∃ k, k = w.heap.size := ⟨_, rfl⟩
  have HBW := Aside0.mk hbw
  obtain ⟨A1, hsl, ht⟩ := words_cut bw t r
  have HT := Aside0.mk ht
  clear hL hB0 hg0 hg hs hw hbw ht hp
  go_enter Tryd.func19, Tryd.ntmps19
  go_upto_region 3 with (first
    | (go_at_call 24; refine (split_any l r.length HN.out _ HS.out HLW.out).mono ?_; rw [← HBW.out]; rintro e w1 ⟨rfl, hbk, hb⟩; rw [HW.out] at hbk; have BW := Aside0.mk hbk; have HB := Aside0.mk hb; clear hbk hb)
    | (go_at_call 25; refine (taker_any _ _ _ _).mono ?_; rintro e w2 ⟨rfl, hw2⟩; have x0 : w2.cell? ⟨bw, 0, none⟩ = some (.string t) := (by rw [hw2]; exact pw_cell_below (bel1 w1 _) ((blk_cell BW.out 0).trans rfl)); obtain ⟨bx, hbx⟩ : ∃ k, k = w1.heap.size := ⟨_, rfl⟩; rw [← hbx]; have BX : Aside0 (w2.heap[bx]? = some (.cells #[.slice A1 r.length r.length] 52 (0, 0))) := (by rw [hw2, hbx]; exact ⟨heap_alloc_new w1 _⟩); have HB2 : Aside0 (Below w1.heap.size w1 w2) := (by rw [hw2]; exact ⟨bel1 w1 _⟩); have HBX : Aside0 (bx = w1.heap.size) := ⟨hbx⟩; clear hw2 hbx))
  have HBB : Aside0 (Below w.heap.size w w2) := ⟨by have h1 := HB.out; rw [HBW.out] at h1; exact below_step h1 HB2.out⟩
  have BG2 := Aside0.mk (blk_below BG.out HBB.out)
  have BW2 := Aside0.mk (blk_below BW.out HB2.out)
  have WSI := Aside0.mk ((HT.out.1 w2) BW2.out)
  have HGX : Aside0 (g < bx ∧ g < bw ∧ bx < w2.heap.size) := ⟨by have h1 := GW.out; have h2 := HBW.out; have h3 := HBX.out; have h4 := HB.out.size; have h5 := blk_lt BW.out; have h6 := blk_lt BX.out; omega⟩
  have HP2 := Aside0.mk (Kd.R_below HP.out HBB.out)
  go_upto_region 5 with (fail)
  refine start_ (n := 25) (S := fun w' => True) (ds := []) #[false, false, false, false, false, false, false, false, false, false, false, false, false, false, false, false, false, false, false, false, false, false, false, false, false] (by kernel_rfl) rfl rfl ⟨⟩ (fun hHeld => ?_)
  refine with_tabW q5tab q5bits (fun HT_ HW_ => ?_)
  have n1_ := Aside0.mk (blk_drew BG2.out)
  have n2_ := Aside0.mk (blk_drew BX.out)
  have n3_ := Aside0.mk (WSI.out.below (below_drew1 (Below.refl _ _)))
  have n4_ := Aside0.mk (below_drew1 HBB.out)
  have n5_ := Aside0.mk (Kd.R_drew HP2.out)
  have n6_ : Aside0 (bx < w2.drew.heap.size) := ⟨HGX.out.2.2⟩
  generalize w2.drew = w3 at n1_ n2_ n3_ n4_ n5_ n6_ hHeld ⊢
  clear BG2 BX WSI HBB HP2 HB HB2 BW BW2 x0
  refine pure_ (i := 0) (N := some 30) (v := ?_) (a' := ?_) #[true, false, false, false, false, false, false, false, false, false, false, false, false, false, false, false, false, false, false, false, false, false, false, false, false] rfl rfl (any_of HT_.out (by kernel_rfl)) (fun _ _ _ h => h) (Or.inl ⟨by rfl, ?_⟩) ?_ ?_
  rotate_left
  · intro w'
    go_simp
    with_reducible rfl
  rotate_left
  · simp only [Act.put, List.setIfInBounds_toArray, List.set_cons_zero, List.set_cons_succ, i64_w, i32_w]
    rfl
  refine pure_ (i := 1) (N := some 31) (v := ?_) (a' := ?_) #[true, true, false, false, false, false, false, false, false, false, false, false, false, false, false, false, false, false, false, false, false, false, false, false, false] rfl rfl (any_of HT_.out (by kernel_rfl)) (fun _ _ _ h => h) (Or.inl ⟨by rfl, ?_⟩) ?_ ?_
  rotate_left
  · intro w'
    go_simp
    with_reducible rfl
  rotate_left
  · simp only [Act.put, List.setIfInBounds_toArray, List.set_cons_zero, List.set_cons_succ, i64_w, i32_w]
    rfl
  refine pure_ (i := 2) (N := some 32) (v := ?_) (a' := ?_) #[true, true, true, false, false, false, false, false, false, false, false, false, false, false, false, false, false, false, false, false, false, false, false, false, false] rfl rfl (any_of HT_.out (by kernel_rfl)) (fun _ _ _ h => h) (Or.inl ⟨by rfl, ?_⟩) ?_ ?_
  rotate_left
  · intro w'
    go_simp
    with_reducible rfl
  rotate_left
  · simp only [Act.put, List.setIfInBounds_toArray, List.set_cons_zero, List.set_cons_succ, i64_w, i32_w]
    rfl
  refine pure_ (i := 3) (N := some 33) (v := ?_) (a' := ?_) #[true, true, true, true, false, false, false, false, false, false, false, false, false, false, false, false, false, false, false, false, false, false, false, false, false] rfl rfl (any_of HT_.out (by kernel_rfl)) (fun _ _ _ h => h) (Or.inl ⟨by rfl, ?_⟩) ?_ ?_
  rotate_left
  · intro w'
    go_simp
    with_reducible rfl
  rotate_left
  · simp only [Act.put, List.setIfInBounds_toArray, List.set_cons_zero, List.set_cons_succ, i64_w, i32_w]
    rfl
  refine pure_ (i := 4) (N := some 34) (v := ?_) (a' := ?_) #[true, true, true, true, true, false, false, false, false, false, false, false, false, false, false, false, false, false, false, false, false, false, false, false, false] rfl rfl (any_of HT_.out (by kernel_rfl)) (fun _ _ _ h => h) (Or.inl ⟨by rfl, ?_⟩) ?_ ?_
  rotate_left
  · intro w'
    go_simp
    with_reducible rfl
  rotate_left
  · simp only [Act.put, List.setIfInBounds_toArray, List.set_cons_zero, List.set_cons_succ, i64_w, i32_w]
    rfl
  refine pure_ (i := 5) (N := some 35) (v := ?_) (a' := ?_) #[true, true, true, true, true, true, false, false, false, false, false, false, false, false, false, false, false, false, false, false, false, false, false, false, false] rfl rfl (any_of HT_.out (by kernel_rfl)) (fun _ _ _ h => h) (Or.inl ⟨by rfl, ?_⟩) ?_ ?_
  rotate_left
  · intro w'
    go_simp
    with_reducible rfl
  rotate_left
  · simp only [Act.put, List.setIfInBounds_toArray, List.set_cons_zero, List.set_cons_succ, i64_w, i32_w]
    rfl
  refine pure_ (i := 6) (N := some 36) (v := ?_) (a' := ?_) #[true, true, true, true, true, true, true, false, false, false, false, false, false, false, false, false, false, false, false, false, false, false, false, false, false] rfl rfl (any_of HT_.out (by kernel_rfl)) (fun _ _ _ h => h) (Or.inl ⟨by rfl, ?_⟩) ?_ ?_
  rotate_left
  · intro w'
    go_simp
    with_reducible rfl
  rotate_left
  · simp only [Act.put, List.setIfInBounds_toArray, List.set_cons_zero, List.set_cons_succ, i64_w, i32_w]
    rfl
  refine pure_ (i := 7) (N := some 37) (v := ?_) (a' := ?_) #[true, true, true, true, true, true, true, true, false, false, false, false, false, false, false, false, false, false, false, false, false, false, false, false, false] rfl rfl (any_of HT_.out (by kernel_rfl)) (fun _ _ _ h => h) (Or.inl ⟨by rfl, ?_⟩) ?_ ?_
  rotate_left
  · intro w'
    go_simp
    with_reducible rfl
  rotate_left
  · simp only [Act.put, List.setIfInBounds_toArray, List.set_cons_zero, List.set_cons_succ, i64_w, i32_w]
    rfl
  refine pure_ (i := 8) (N := some 38) (v := ?_) (a' := ?_) #[true, true, true, true, true, true, true, true, true, false, false, false, false, false, false, false, false, false, false, false, false, false, false, false, false] rfl rfl (any_of HT_.out (by kernel_rfl)) (fun _ _ _ h => h) (Or.inl ⟨by rfl, ?_⟩) ?_ ?_
  rotate_left
  · intro w'
    go_simp
    with_reducible rfl
  rotate_left
  · simp only [Act.put, List.setIfInBounds_toArray, List.set_cons_zero, List.set_cons_succ, i64_w, i32_w]
    rfl
  refine pure_ (i := 9) (N := some 39) (v := ?_) (a' := ?_) #[true, true, true, true, true, true, true, true, true, true, false, false, false, false, false, false, false, false, false, false, false, false, false, false, false] rfl rfl (any_of HT_.out (by kernel_rfl)) (fun _ _ _ h => h) (Or.inl ⟨by rfl, ?_⟩) ?_ ?_
  rotate_left
  · intro w'
    go_simp
    with_reducible rfl
  rotate_left
  · simp only [Act.put, List.setIfInBounds_toArray, List.set_cons_zero, List.set_cons_succ, i64_w, i32_w]
    rfl
  refine pure_ (i := 10) (N := some 40) (v := ?_) (a' := ?_) #[true, true, true, true, true, true, true, true, true, true, true, false, false, false, false, false, false, false, false, false, false, false, false, false, false] rfl rfl (any_of HT_.out (by kernel_rfl)) (fun _ _ _ h => h) (Or.inl ⟨by rfl, ?_⟩) ?_ ?_
  rotate_left
  · intro w'
    go_simp
    with_reducible rfl
  rotate_left
  · simp only [Act.put, List.setIfInBounds_toArray, List.set_cons_zero, List.set_cons_succ, i64_w, i32_w]
    rfl
  refine pure_ (i := 11) (N := some 41) (v := ?_) (a' := ?_) #[true, true, true, true, true, true, true, true, true, true, true, true, false, false, false, false, false, false, false, false, false, false, false, false, false] rfl rfl (any_of HT_.out (by kernel_rfl)) (fun _ _ _ h => h) (Or.inl ⟨by rfl, ?_⟩) ?_ ?_
  rotate_left
  · intro w'
    go_simp
    with_reducible rfl
  rotate_left
  · simp only [Act.put, List.setIfInBounds_toArray, List.set_cons_zero, List.set_cons_succ, i64_w, i32_w]
    rfl
  refine pure_ (i := 12) (N := some 42) (v := ?_) (a' := ?_) #[true, true, true, true, true, true, true, true, true, true, true, true, true, false, false, false, false, false, false, false, false, false, false, false, false] rfl rfl (any_of HT_.out (by kernel_rfl)) (fun _ _ _ h => h) (Or.inl ⟨by rfl, ?_⟩) ?_ ?_
  rotate_left
  · intro w'
    go_simp
    with_reducible rfl
  rotate_left
  · simp only [Act.put, List.setIfInBounds_toArray, List.set_cons_zero, List.set_cons_succ, i64_w, i32_w]
    rfl
  refine pure_ (i := 13) (N := some 43) (v := ?_) (a' := ?_) #[true, true, true, true, true, true, true, true, true, true, true, true, true, true, false, false, false, false, false, false, false, false, false, false, false] rfl rfl (any_of HT_.out (by kernel_rfl)) (fun _ _ _ h => h) (Or.inl ⟨by rfl, ?_⟩) ?_ ?_
  rotate_left
  · intro w'
    go_simp
    with_reducible rfl
  rotate_left
  · simp only [Act.put, List.setIfInBounds_toArray, List.set_cons_zero, List.set_cons_succ, i64_w, i32_w]
    rfl
  refine pure_ (i := 14) (N := some 44) (v := ?_) (a' := ?_) #[true, true, true, true, true, true, true, true, true, true, true, true, true, true, true, false, false, false, false, false, false, false, false, false, false] rfl rfl (any_of HT_.out (by kernel_rfl)) (fun _ _ _ h => h) (Or.inl ⟨by rfl, ?_⟩) ?_ ?_
  rotate_left
  · intro w'
    go_simp
    with_reducible rfl
  rotate_left
  · simp only [Act.put, List.setIfInBounds_toArray, List.set_cons_zero, List.set_cons_succ, i64_w, i32_w]
    rfl
  refine pure_ (i := 15) (N := some 45) (v := ?_) (a' := ?_) #[true, true, true, true, true, true, true, true, true, true, true, true, true, true, true, true, false, false, false, false, false, false, false, false, false] rfl rfl (any_of HT_.out (by kernel_rfl)) (fun _ _ _ h => h) (Or.inl ⟨by rfl, ?_⟩) ?_ ?_
  rotate_left
  · intro w'
    go_simp
    with_reducible rfl
  rotate_left
  · simp only [Act.put, List.setIfInBounds_toArray, List.set_cons_zero, List.set_cons_succ, i64_w, i32_w]
    rfl
  refine pure_ (i := 16) (N := some 46) (v := ?_) (a' := ?_) #[true, true, true, true, true, true, true, true, true, true, true, true, true, true, true, true, true, false, false, false, false, false, false, false, false] rfl rfl (any_of HT_.out (by kernel_rfl)) (fun _ _ _ h => h) (Or.inl ⟨by rfl, ?_⟩) ?_ ?_
  rotate_left
  · intro w'
    go_simp
    with_reducible rfl
  rotate_left
  · simp only [Act.put, List.setIfInBounds_toArray, List.set_cons_zero, List.set_cons_succ, i64_w, i32_w]
    rfl
  refine pure_ (i := 17) (N := some 47) (v := ?_) (a' := ?_) #[true, true, true, true, true, true, true, true, true, true, true, true, true, true, true, true, true, true, false, false, false, false, false, false, false] rfl rfl (any_of HT_.out (by kernel_rfl)) (fun _ _ _ h => h) (Or.inl ⟨by rfl, ?_⟩) ?_ ?_
  rotate_left
  · intro w'
    go_simp
    with_reducible rfl
  rotate_left
  · simp only [Act.put, List.setIfInBounds_toArray, List.set_cons_zero, List.set_cons_succ, i64_w, i32_w]
    rfl
  refine pure_ (i := 18) (N := some 48) (v := ?_) (a' := ?_) #[true, true, true, true, true, true, true, true, true, true, true, true, true, true, true, true, true, true, true, false, false, false, false, false, false] rfl rfl (any_of HT_.out (by kernel_rfl)) (fun _ _ _ h => h) (Or.inl ⟨by rfl, ?_⟩) ?_ ?_
  rotate_left
  · intro w'
    go_simp
    with_reducible rfl
  rotate_left
  · simp only [Act.put, List.setIfInBounds_toArray, List.set_cons_zero, List.set_cons_succ, i64_w, i32_w]
    rfl
  refine pure_ (i := 19) (N := some 49) (v := ?_) (a' := ?_) #[true, true, true, true, true, true, true, true, true, true, true, true, true, true, true, true, true, true, true, true, false, false, false, false, false] rfl rfl (any_of HT_.out (by kernel_rfl)) (fun _ _ _ h => h) (Or.inl ⟨by rfl, ?_⟩) ?_ ?_
  rotate_left
  · intro w'
    go_simp
    with_reducible rfl
  rotate_left
  · simp only [Act.put, List.setIfInBounds_toArray, List.set_cons_zero, List.set_cons_succ, i64_w, i32_w]
    rfl
  refine pure_ (i := 20) (N := some 50) (v := ?_) (a' := ?_) #[true, true, true, true, true, true, true, true, true, true, true, true, true, true, true, true, true, true, true, true, true, false, false, false, false] rfl rfl (any_of HT_.out (by kernel_rfl)) (fun _ _ _ h => h) (Or.inl ⟨by rfl, ?_⟩) ?_ ?_
  rotate_left
  · intro w'
    go_simp
    with_reducible rfl
  rotate_left
  · simp only [Act.put, List.setIfInBounds_toArray, List.set_cons_zero, List.set_cons_succ, i64_w, i32_w]
    rfl
  refine pure_ (i := 21) (N := some 51) (v := ?_) (a' := ?_) #[true, true, true, true, true, true, true, true, true, true, true, true, true, true, true, true, true, true, true, true, true, true, false, false, false] rfl rfl (any_of HT_.out (by kernel_rfl)) (fun _ _ _ h => h) (Or.inl ⟨by rfl, ?_⟩) ?_ ?_
  rotate_left
  · intro w'
    go_simp
    with_reducible rfl
  rotate_left
  · simp only [Act.put, List.setIfInBounds_toArray, List.set_cons_zero, List.set_cons_succ, i64_w, i32_w]
    rfl
  refine one_ (i := 22) (N := some 52) #[true, true, true, true, true, true, true, true, true, true, true, true, true, true, true, true, true, true, true, true, true, true, true, false, false] rfl rfl (one_of HT_.out (by kernel_rfl)) (by decide) (fun K hK => ?_)
  refine event_step (v := .slice (some ⟨w3.heap.size, 0, none⟩) 7 7) (w1 := w3.alloc (.cells #[.pointer (some ⟨g, 0, none⟩), .pointer (some ⟨g, 1, none⟩), .pointer (some ⟨g, 2, none⟩), .pointer (some ⟨g, 3, none⟩), .pointer (some ⟨g, 4, none⟩), .pointer (some ⟨g, 5, none⟩), .pointer (some ⟨g, 6, none⟩)] 68)) (by rfl) (by first | (go_simp; done) | (go_simp; rfl)) ?_
  have m1_ := Aside0.mk (blk_below n1_.out (bel1 w3 (.cells #[.pointer (some ⟨g, 0, none⟩), .pointer (some ⟨g, 1, none⟩), .pointer (some ⟨g, 2, none⟩), .pointer (some ⟨g, 3, none⟩), .pointer (some ⟨g, 4, none⟩), .pointer (some ⟨g, 5, none⟩), .pointer (some ⟨g, 6, none⟩)] 68)))
  have m2_ := Aside0.mk (blk_below n2_.out (bel1 w3 (.cells #[.pointer (some ⟨g, 0, none⟩), .pointer (some ⟨g, 1, none⟩), .pointer (some ⟨g, 2, none⟩), .pointer (some ⟨g, 3, none⟩), .pointer (some ⟨g, 4, none⟩), .pointer (some ⟨g, 5, none⟩), .pointer (some ⟨g, 6, none⟩)] 68)))
  have m3_ := Aside0.mk (n3_.out.below (bel1 w3 (.cells #[.pointer (some ⟨g, 0, none⟩), .pointer (some ⟨g, 1, none⟩), .pointer (some ⟨g, 2, none⟩), .pointer (some ⟨g, 3, none⟩), .pointer (some ⟨g, 4, none⟩), .pointer (some ⟨g, 5, none⟩), .pointer (some ⟨g, 6, none⟩)] 68)))
  have m4_ := Aside0.mk (below_step n4_.out (bel1 w3 (.cells #[.pointer (some ⟨g, 0, none⟩), .pointer (some ⟨g, 1, none⟩), .pointer (some ⟨g, 2, none⟩), .pointer (some ⟨g, 3, none⟩), .pointer (some ⟨g, 4, none⟩), .pointer (some ⟨g, 5, none⟩), .pointer (some ⟨g, 6, none⟩)] 68)))
  have m5_ := Aside0.mk (Kd.R_below n5_.out (bel1 w3 (.cells #[.pointer (some ⟨g, 0, none⟩), .pointer (some ⟨g, 1, none⟩), .pointer (some ⟨g, 2, none⟩), .pointer (some ⟨g, 3, none⟩), .pointer (some ⟨g, 4, none⟩), .pointer (some ⟨g, 5, none⟩), .pointer (some ⟨g, 6, none⟩)] 68)))
  have m6_ : Aside0 ((w3.alloc (.cells #[.pointer (some ⟨g, 0, none⟩), .pointer (some ⟨g, 1, none⟩), .pointer (some ⟨g, 2, none⟩), .pointer (some ⟨g, 3, none⟩), .pointer (some ⟨g, 4, none⟩), .pointer (some ⟨g, 5, none⟩), .pointer (some ⟨g, 6, none⟩)] 68)).heap[w3.heap.size]? = some (.cells #[.pointer (some ⟨g, 0, none⟩), .pointer (some ⟨g, 1, none⟩), .pointer (some ⟨g, 2, none⟩), .pointer (some ⟨g, 3, none⟩), .pointer (some ⟨g, 4, none⟩), .pointer (some ⟨g, 5, none⟩), .pointer (some ⟨g, 6, none⟩)] 68 (0, 0))) := ⟨heap_alloc_new w3 _⟩
  have m7_ : Aside0 (bx < w3.heap.size) := n6_
  generalize w3.alloc (.cells #[.pointer (some ⟨g, 0, none⟩), .pointer (some ⟨g, 1, none⟩), .pointer (some ⟨g, 2, none⟩), .pointer (some ⟨g, 3, none⟩), .pointer (some ⟨g, 4, none⟩), .pointer (some ⟨g, 5, none⟩), .pointer (some ⟨g, 6, none⟩)] 68) = w4 at m1_ m2_ m3_ m4_ m5_ m6_ ⊢
  generalize w3.heap.size = gp at m6_ m7_ ⊢
  clear n1_ n2_ n3_ n4_ n5_ n6_
  refine hK.out _ _ trivial (fun hHeld => ?_)
  clear hK K
  refine norm_ (a' := ?_) ?_ ?_
  rotate_left
  · show Act.put _ (some 52) _ = _
    simp only [Act.put, List.setIfInBounds_toArray, List.set_cons_zero, List.set_cons_succ, i64_w, i32_w]
    rfl
  refine one_ (i := 23) (N := some 53) #[true, true, true, true, true, true, true, true, true, true, true, true, true, true, true, true, true, true, true, true, true, true, true, true, false] rfl rfl (one_of HT_.out (by kernel_rfl)) (by decide) (fun K hK => ?_)
  refine goesF_ Tryd.func34 (by kernel_rfl) rfl #[.slice (some ⟨gp, 0, none⟩) 7 7, .pointer (some ⟨bx, 0, none⟩)] (by rfl) rfl rfl rfl (by (try simp only [List.map_toArray, List.map_cons, List.map_nil]); first | done | rfl) ?_
  refine (take_any g 26 (scC s.lim s.reap v) [0, 1, 2, 3, 4, 5, 6] (some ⟨gp, 0, none⟩) 7 bx A1 r.length r w4 w0 HL.out (below_then HB0.out HB0.out.size m4_.out) HG0.out m1_.out ?aO (by decide) ?aP m2_.out (by have := HGX.out; omega) m3_.out ?aA HRL.out HSZ.out).mono ?_
  case aO => intro o ho; simp only [List.mem_cons, List.not_mem_nil, or_false] at ho; rcases ho with rfl | rfl | rfl | rfl | rfl | rfl | rfl <;> exact ⟨_, rfl⟩
  case aP =>
    intro j o hj
    have hjl := (List.getElem?_eq_some_iff.1 hj).1
    refine ⟨_, rfl, by have := HGX.out; have := m7_.out; show gp ≠ g; omega, ?_⟩
    rw [show (⟨gp, 0, none⟩ : Addr).add j = ⟨gp, j, none⟩ by simp [Addr.add]; exact Eq.symm, blk_cell m6_.out j]
    match j, hjl with
    | 0, _ | 1, _ | 2, _ | 3, _ | 4, _ | 5, _ | 6, _ => injection hj with hj; subst hj; rfl
  case aA => intro ad hA; rw [HT.out.2 ad hA]; have := HGX.out; omega
  rintro e w5 htk
  have HTK := Aside0.mk htk
  clear htk
  obtain ⟨ev, hev⟩ : ∃ ev, e = .returned ev := by
    have h := HTK.out
    unfold TakeSays at h
    split at h
    · exact ⟨_, h.1⟩
    · obtain ⟨⟨a, h, _⟩, _⟩ := h
      exact ⟨_, h⟩
  subst hev
  refine ⟨ev, rfl, ?_⟩
  refine hK.out _ _ trivial (fun hHeld => ?_)
  clear hK K
  refine norm_ (a' := ?_) ?_ ?_
  rotate_left
  · show Act.put _ (some 53) _ = _
    simp only [Act.put, List.setIfInBounds_toArray, List.set_cons_zero, List.set_cons_succ, i64_w, i32_w]
    rfl
  refine pure_ (i := 24) (N := some 6) (v := ?_) (a' := ?_) #[true, true, true, true, true, true, true, true, true, true, true, true, true, true, true, true, true, true, true, true, true, true, true, true, true] rfl rfl (any_of HT_.out (by kernel_rfl)) (fun _ _ _ h => h) (Or.inl ⟨by rfl, ?_⟩) ?_ ?_
  rotate_left
  · intro w'
    go_simp
    with_reducible rfl
  rotate_left
  · simp only [Act.put, List.setIfInBounds_toArray, List.set_cons_zero, List.set_cons_succ, i64_w, i32_w]
    rfl
  refine done_ (done_of HT_.out (by kernel_rfl)) ?_
  go_wp2_with (fail)
  go_ret
  have h := HTK.out
  unfold TakeSays at h
  have hgl : g < w4.heap.size := blk_lt m1_.out
  have hR := HR.out
  cases htk : takeOf 7 r with
  | none =>
    rw [htk] at hR
    subst hR
    rw [show ([0, 1, 2, 3, 4, 5, 6] : List Nat).length = 7 from rfl, htk] at h
    obtain ⟨⟨a, h1, h2, h3⟩, _, h4⟩ := h
    injection h1 with h1
    subst h1
    exact ⟨⟨a, rfl, h2, by omega⟩, (m4_.out.mono (Nat.le_of_lt GW.out)).trans (h4.below (Nat.le_of_lt hgl) (Nat.le_refl _))⟩
  | some ns =>
    rw [htk] at hR
    subst hR
    rw [show ([0, 1, 2, 3, 4, 5, 6] : List Nat).length = 7 from rfl, htk] at h
    obtain ⟨h1, h2, h4⟩ := h
    injection h1 with h1
    subst h1
    have hl := take_len htk
    obtain ⟨n0, n1, n2, n3, n4, n5, n6, rfl⟩ : ∃ a b c d e f g, ns = [a, b, c, d, e, f, g] := by
      match ns, hl with
      | [a, b, c, d, e, f, g], _ => exact ⟨a, b, c, d, e, f, g, rfl⟩
    refine ⟨rfl, ⟨v, h2, ?_⟩, (m4_.out.mono (Nat.le_of_lt GW.out)).trans (h4.below (Nat.le_of_lt hgl) (Nat.le_refl _))⟩
    exact Kd.R_mono (Kd.R_step (Kd.R_bound m5_.out) (fun k hk hlt => h4.block k hlt (by have := hk.2.1; omega))) (fun _ _ => trivial)
set_option maxRecDepth 100000 in
set_option maxHeartbeats 8000000 in
theorem reads_0n (g : Nat) (s : Scr) (v : Value) (l : ByteArray) (w w0 : World) (t : ByteArray) (r : List ByteArray)
    (hL : LW w0) (hB0 : Below w0.heap.size w0 w) (hg0 : w0.heap.size ≤ g) (hg : w.heap[g]? = some (.cells (scC s.lim s.reap v) 26 (0, 0))) (hp : Kd.R k29 29 w (g + 1) (fun _ => True) v s.picks) (hs : l.size < 4294967281) (hw : wordsL l = t :: r) (hq : t.toList ≠ wLimits) :
    Calls Tryd.prog 19 #[.pointer (some ⟨g, 0, none⟩), .int .i64 0, .string l] w (ReadsSays w g (readsW 0 s t.toList r)) := by
  have HR : Aside0 (readsW 0 s t.toList r = .error 170) := ⟨by unfold readsW; rw [if_pos rfl, if_neg hq]⟩
  generalize readsW 0 s t.toList r = rr at HR ⊢
  have hq1 : (t.toList == [108, 105, 109, 105, 116, 115]) = false := beq_eq_false_iff_ne.2 hq
  clear hq
  have HL := Aside0.mk hL
  have HB0 := Aside0.mk hB0
  have HG0 := Aside0.mk hg0
  have BG := Aside0.mk hg
  have HS := Aside0.mk hs
  have HW := Aside0.mk hw
  have HP := Aside0.mk hp
  have HN : Aside0 (Lib.countB l space = r.length) := ⟨by have := words_length l _ rfl; rw [hw, List.length_cons] at this; omega⟩
  have HRL : Aside0 (r.length ≤ 4294967296) := ⟨by have := count_le l; have := HN.out; omega⟩
  have HSZ : Aside0 (∀ t ∈ r, t.size ≤ 281474976710656) := ⟨fun u hu => by have := word_size l u (by rw [hw]; exact List.mem_cons_of_mem _ hu); omega⟩
  have HLW : Aside0 (LW w) := ⟨HL.out.below HB0.out⟩
  have GW := Aside0.mk (blk_lt hg)
  obtain ⟨bw, hbw⟩ : ∃ k, k = w.heap.size := ⟨_, rfl⟩
  have HBW := Aside0.mk hbw
  obtain ⟨A1, hsl, ht⟩ := words_cut bw t r
  have HT := Aside0.mk ht
  clear hL hB0 hg0 hg hs hw hbw ht hp
  go_enter Tryd.func19, Tryd.ntmps19
  go_upto_region 3 with (first
    | (go_at_call 24; refine (split_any l r.length HN.out _ HS.out HLW.out).mono ?_; rw [← HBW.out]; rintro e w1 ⟨rfl, hbk, hb⟩; rw [HW.out] at hbk; have BW := Aside0.mk hbk; have HB := Aside0.mk hb; clear hbk hb)
    | (go_at_call 25; refine (taker_any _ _ _ _).mono ?_; rintro e w2 ⟨rfl, hw2⟩; have x0 : w2.cell? ⟨bw, 0, none⟩ = some (.string t) := (by rw [hw2]; exact pw_cell_below (bel1 w1 _) ((blk_cell BW.out 0).trans rfl)); obtain ⟨bx, hbx⟩ : ∃ k, k = w1.heap.size := ⟨_, rfl⟩; rw [← hbx]; have BX : Aside0 (w2.heap[bx]? = some (.cells #[.slice A1 r.length r.length] 52 (0, 0))) := (by rw [hw2, hbx]; exact ⟨heap_alloc_new w1 _⟩); have HB2 : Aside0 (Below w1.heap.size w1 w2) := (by rw [hw2]; exact ⟨bel1 w1 _⟩); have HBX : Aside0 (bx = w1.heap.size) := ⟨hbx⟩; clear hw2 hbx))
  have HBB : Aside0 (Below w.heap.size w w2) := ⟨by have h1 := HB.out; rw [HBW.out] at h1; exact below_step h1 HB2.out⟩
  have BG2 := Aside0.mk (blk_below BG.out HBB.out)
  have BW2 := Aside0.mk (blk_below BW.out HB2.out)
  have WSI := Aside0.mk ((HT.out.1 w2) BW2.out)
  have HGX : Aside0 (g < bx ∧ g < bw ∧ bx < w2.heap.size) := ⟨by have h1 := GW.out; have h2 := HBW.out; have h3 := HBX.out; have h4 := HB.out.size; have h5 := blk_lt BW.out; have h6 := blk_lt BX.out; omega⟩
  have HP2 := Aside0.mk (Kd.R_below HP.out HBB.out)
  clear HP2 WSI BW2 BG2 BX
  go_wp2_with ((go_at_call 18; refine (word_any _).mono ?_; rintro e w9 ⟨rfl, hw9⟩; have HW9 := Aside0.mk hw9; clear hw9))
  rw [HR.out]
  go_ret
  have h9 := HW9.out
  subst h9
  exact ⟨⟨_, rfl, heap_alloc_new _ _, by have := HGX.out; omega⟩, (below_alloc HBB.out _).mono (Nat.le_of_lt GW.out)⟩
theorem TakeSays.ret {w w' : World} {g : Nat} {T : TypeId} {cs : Array Value} {os : List Nat} {r : Option (List Int)} {e : Ending} (h : TakeSays w g T cs os r e w') : ∃ ev, e = .returned ev := by
  unfold TakeSays at h
  split at h
  · exact ⟨_, h.1⟩
  · obtain ⟨⟨a, h, _⟩, _⟩ := h
    exact ⟨_, h⟩
theorem TakeSays.blk {w w' : World} {g : Nat} {T : TypeId} {cs : Array Value} {os : List Nat} {r : Option (List Int)} {e : Ending} (h : TakeSays w g T cs os r e w') : ∃ ns, w'.heap[g]? = some (.cells (layAll cs os ns) T (0, 0)) := by
  unfold TakeSays at h
  split at h
  · exact ⟨_, h.2.1⟩
  · exact h.2.1
theorem TakeSays.fr {w w' : World} {g : Nat} {T : TypeId} {cs : Array Value} {os : List Nat} {r : Option (List Int)} {e : Ending} (h : TakeSays w g T cs os r e w') : Fr w.heap.size g w w' := by
  unfold TakeSays at h
  split at h
  · exact h.2.2
  · exact h.2.2
set_option maxRecDepth 100000 in
set_option maxHeartbeats 8000000 in
theorem reads_1k (g : Nat) (s : Scr) (v : Value) (l : ByteArray) (w w0 : World) (t : ByteArray) (r : List ByteArray)
    (hL : LW w0) (hB0 : Below w0.heap.size w0 w) (hg0 : w0.heap.size ≤ g) (hg : w.heap[g]? = some (.cells (scC s.lim s.reap v) 26 (0, 0))) (hp : Kd.R k29 29 w (g + 1) (fun _ => True) v s.picks) (hs : l.size < 4294967281) (hw : wordsL l = t :: r) (hq : t.toList = wKeep) :
    Calls Tryd.prog 19 #[.pointer (some ⟨g, 0, none⟩), .int .i64 1, .string l] w (ReadsSays w g (readsW 1 s t.toList r)) := by
  have HR : Aside0 (readsW 1 s t.toList r = (match takeOf 0 r with | none => .error 171 | some _ => .ok ⟨s.lim, false, s.picks⟩)) := ⟨by unfold readsW; rw [if_neg (by decide), if_pos rfl, hq]; rfl⟩
  generalize readsW 1 s t.toList r = rr at HR ⊢
  have hq1 : (t.toList == [107, 101, 101, 112]) = true := beq_iff_eq.2 hq
  have hq2 : (t.toList == [114, 101, 97, 112]) = false := beq_eq_false_iff_ne.2 (by rw [hq]; decide)
  clear hq
  have HL := Aside0.mk hL
  have HB0 := Aside0.mk hB0
  have HG0 := Aside0.mk hg0
  have BG := Aside0.mk hg
  have HS := Aside0.mk hs
  have HW := Aside0.mk hw
  have HP := Aside0.mk hp
  have HN : Aside0 (Lib.countB l space = r.length) := ⟨by have := words_length l _ rfl; rw [hw, List.length_cons] at this; omega⟩
  have HRL : Aside0 (r.length ≤ 4294967296) := ⟨by have := count_le l; have := HN.out; omega⟩
  have HSZ : Aside0 (∀ t ∈ r, t.size ≤ 281474976710656) := ⟨fun u hu => by have := word_size l u (by rw [hw]; exact List.mem_cons_of_mem _ hu); omega⟩
  have HLW : Aside0 (LW w) := ⟨HL.out.below HB0.out⟩
  have GW := Aside0.mk (blk_lt hg)
  obtain ⟨bw, hbw⟩ : ∃ k, k = w.heap.size := ⟨_, rfl⟩
  have HBW := Aside0.mk hbw
  obtain ⟨A1, hsl, ht⟩ := words_cut bw t r
  have HT := Aside0.mk ht
  clear hL hB0 hg0 hg hs hw hbw ht hp
  go_enter Tryd.func19, Tryd.ntmps19
  go_upto_region 3 with (first
    | (go_at_call 24; refine (split_any l r.length HN.out _ HS.out HLW.out).mono ?_; rw [← HBW.out]; rintro e w1 ⟨rfl, hbk, hb⟩; rw [HW.out] at hbk; have BW := Aside0.mk hbk; have HB := Aside0.mk hb; clear hbk hb)
    | (go_at_call 25; refine (taker_any _ _ _ _).mono ?_; rintro e w2 ⟨rfl, hw2⟩; have x0 : w2.cell? ⟨bw, 0, none⟩ = some (.string t) := (by rw [hw2]; exact pw_cell_below (bel1 w1 _) ((blk_cell BW.out 0).trans rfl)); obtain ⟨bx, hbx⟩ : ∃ k, k = w1.heap.size := ⟨_, rfl⟩; rw [← hbx]; have BX : Aside0 (w2.heap[bx]? = some (.cells #[.slice A1 r.length r.length] 52 (0, 0))) := (by rw [hw2, hbx]; exact ⟨heap_alloc_new w1 _⟩); have HB2 : Aside0 (Below w1.heap.size w1 w2) := (by rw [hw2]; exact ⟨bel1 w1 _⟩); have HBX : Aside0 (bx = w1.heap.size) := ⟨hbx⟩; clear hw2 hbx))
  have HBB : Aside0 (Below w.heap.size w w2) := ⟨by have h1 := HB.out; rw [HBW.out] at h1; exact below_step h1 HB2.out⟩
  have BG2 := Aside0.mk (blk_below BG.out HBB.out)
  have BW2 := Aside0.mk (blk_below BW.out HB2.out)
  have WSI := Aside0.mk ((HT.out.1 w2) BW2.out)
  have HGX : Aside0 (g < bx ∧ g < bw ∧ bx < w2.heap.size) := ⟨by have h1 := GW.out; have h2 := HBW.out; have h3 := HBX.out; have h4 := HB.out.size; have h5 := blk_lt BW.out; have h6 := blk_lt BX.out; omega⟩
  have HP2 := Aside0.mk (Kd.R_below HP.out HBB.out)
  have x7 : w2.cell? ⟨g, 7, none⟩ = some (.bool s.reap) := (blk_cell BG2.out 7).trans rfl
  have x8 : w2.frozen? ⟨g, 7, none⟩ = false := blk_frozen BG2.out 7
  go_upto_region 8 with (fail)
  have n1_ : Aside0 ((w2.setCell ⟨g, 7, none⟩ (.bool false)).heap[g]? = some (.cells (scC s.lim false v) 26 (0, 0))) := ⟨blk_put BG2.out 7 _ rfl⟩
  have n2_ : Aside0 ((w2.setCell ⟨g, 7, none⟩ (.bool false)).heap[bx]? = some (.cells #[.slice A1 r.length r.length] 52 (0, 0))) := ⟨blk_far BX.out (by have := HGX.out; show bx ≠ g; omega) _⟩
  have n3_ : Aside0 (WordsIn (w2.setCell ⟨g, 7, none⟩ (.bool false)) A1 r) := ⟨WSI.out.fr (base := w2.heap.size) (fr_set (Fr.refl _ _ _) 7 _) (Nat.le_refl _) (fun ad hA => by rw [HT.out.2 ad hA]; have := HGX.out; omega)⟩
  have n4_ : Aside0 (Below g w (w2.setCell ⟨g, 7, none⟩ (.bool false))) := ⟨below_setG (HBB.out.mono (Nat.le_of_lt GW.out)) (Nat.le_refl _) _ _⟩
  have n5_ : Aside0 (Kd.R k29 29 (w2.setCell ⟨g, 7, none⟩ (.bool false)) (g + 1) (fun _ => True) v s.picks) := ⟨Kd.R_mono (Kd.R_far (Kd.R_bound HP2.out) (fun k hk => by have := hk.2.1; show k ≠ g; omega) _) (fun _ _ => trivial)⟩
  generalize w2.setCell ⟨g, 7, none⟩ (.bool false) = w3 at n1_ n2_ n3_ n4_ n5_ ⊢
  clear BG2 BX WSI HBB HP2 HB HB2 BW BW2 x0 x7 x8
  go_wp2_with (go_at_call 34; refine (take_any g 26 (scC s.lim false v) [] none 0 bx A1 r.length r w3 w0 HL.out (HB0.out.trans (n4_.out.mono HG0.out)) HG0.out n1_.out (fun o ho => by cases ho) (by decide) (fun j o hj => by simp at hj) n2_.out (by have := HGX.out; omega) n3_.out (fun ad hA => by rw [HT.out.2 ad hA]; have := HGX.out; omega) HRL.out HSZ.out).mono ?_; rintro e w5 htk; have HTK := Aside0.mk htk; clear htk; obtain ⟨ev, hev⟩ := HTK.out.ret; subst hev)
  go_ret
  have h := HTK.out
  unfold TakeSays at h
  have hgl : g < w3.heap.size := blk_lt n1_.out
  have hR := HR.out
  cases htk : takeOf 0 r with
  | none =>
    rw [htk] at hR
    subst hR
    rw [show ([] : List Nat).length = 0 from rfl, htk] at h
    obtain ⟨⟨a, h1, h2, h3⟩, _, h4⟩ := h
    injection h1 with h1
    subst h1
    exact ⟨⟨a, rfl, h2, by omega⟩, n4_.out.trans (h4.below (Nat.le_of_lt hgl) (Nat.le_refl _))⟩
  | some ns =>
    rw [htk] at hR
    subst hR
    rw [show ([] : List Nat).length = 0 from rfl, htk] at h
    obtain ⟨h1, h2, h4⟩ := h
    injection h1 with h1
    subst h1
    refine ⟨rfl, ⟨v, h2, ?_⟩, n4_.out.trans (h4.below (Nat.le_of_lt hgl) (Nat.le_refl _))⟩
    exact Kd.R_mono (Kd.R_step (Kd.R_bound n5_.out) (fun k hk hlt => h4.block k hlt (by have := hk.2.1; omega))) (fun _ _ => trivial)
set_option maxRecDepth 100000 in
set_option maxHeartbeats 8000000 in
theorem reads_1r (g : Nat) (s : Scr) (v : Value) (l : ByteArray) (w w0 : World) (t : ByteArray) (r : List ByteArray)
    (hL : LW w0) (hB0 : Below w0.heap.size w0 w) (hg0 : w0.heap.size ≤ g) (hg : w.heap[g]? = some (.cells (scC s.lim s.reap v) 26 (0, 0))) (hp : Kd.R k29 29 w (g + 1) (fun _ => True) v s.picks) (hs : l.size < 4294967281) (hw : wordsL l = t :: r) (hq : t.toList = wReap) :
    Calls Tryd.prog 19 #[.pointer (some ⟨g, 0, none⟩), .int .i64 1, .string l] w (ReadsSays w g (readsW 1 s t.toList r)) := by
  have HR : Aside0 (readsW 1 s t.toList r = (match takeOf 0 r with | none => .error 171 | some _ => .ok ⟨s.lim, true, s.picks⟩)) := ⟨by unfold readsW; rw [if_neg (by decide), if_pos rfl, hq]; rfl⟩
  generalize readsW 1 s t.toList r = rr at HR ⊢
  have hq1 : (t.toList == [114, 101, 97, 112]) = true := beq_iff_eq.2 hq
  have hq2 : (t.toList == [107, 101, 101, 112]) = false := beq_eq_false_iff_ne.2 (by rw [hq]; decide)
  clear hq
  have HL := Aside0.mk hL
  have HB0 := Aside0.mk hB0
  have HG0 := Aside0.mk hg0
  have BG := Aside0.mk hg
  have HS := Aside0.mk hs
  have HW := Aside0.mk hw
  have HP := Aside0.mk hp
  have HN : Aside0 (Lib.countB l space = r.length) := ⟨by have := words_length l _ rfl; rw [hw, List.length_cons] at this; omega⟩
  have HRL : Aside0 (r.length ≤ 4294967296) := ⟨by have := count_le l; have := HN.out; omega⟩
  have HSZ : Aside0 (∀ t ∈ r, t.size ≤ 281474976710656) := ⟨fun u hu => by have := word_size l u (by rw [hw]; exact List.mem_cons_of_mem _ hu); omega⟩
  have HLW : Aside0 (LW w) := ⟨HL.out.below HB0.out⟩
  have GW := Aside0.mk (blk_lt hg)
  obtain ⟨bw, hbw⟩ : ∃ k, k = w.heap.size := ⟨_, rfl⟩
  have HBW := Aside0.mk hbw
  obtain ⟨A1, hsl, ht⟩ := words_cut bw t r
  have HT := Aside0.mk ht
  clear hL hB0 hg0 hg hs hw hbw ht hp
  go_enter Tryd.func19, Tryd.ntmps19
  go_upto_region 3 with (first
    | (go_at_call 24; refine (split_any l r.length HN.out _ HS.out HLW.out).mono ?_; rw [← HBW.out]; rintro e w1 ⟨rfl, hbk, hb⟩; rw [HW.out] at hbk; have BW := Aside0.mk hbk; have HB := Aside0.mk hb; clear hbk hb)
    | (go_at_call 25; refine (taker_any _ _ _ _).mono ?_; rintro e w2 ⟨rfl, hw2⟩; have x0 : w2.cell? ⟨bw, 0, none⟩ = some (.string t) := (by rw [hw2]; exact pw_cell_below (bel1 w1 _) ((blk_cell BW.out 0).trans rfl)); obtain ⟨bx, hbx⟩ : ∃ k, k = w1.heap.size := ⟨_, rfl⟩; rw [← hbx]; have BX : Aside0 (w2.heap[bx]? = some (.cells #[.slice A1 r.length r.length] 52 (0, 0))) := (by rw [hw2, hbx]; exact ⟨heap_alloc_new w1 _⟩); have HB2 : Aside0 (Below w1.heap.size w1 w2) := (by rw [hw2]; exact ⟨bel1 w1 _⟩); have HBX : Aside0 (bx = w1.heap.size) := ⟨hbx⟩; clear hw2 hbx))
  have HBB : Aside0 (Below w.heap.size w w2) := ⟨by have h1 := HB.out; rw [HBW.out] at h1; exact below_step h1 HB2.out⟩
  have BG2 := Aside0.mk (blk_below BG.out HBB.out)
  have BW2 := Aside0.mk (blk_below BW.out HB2.out)
  have WSI := Aside0.mk ((HT.out.1 w2) BW2.out)
  have HGX : Aside0 (g < bx ∧ g < bw ∧ bx < w2.heap.size) := ⟨by have h1 := GW.out; have h2 := HBW.out; have h3 := HBX.out; have h4 := HB.out.size; have h5 := blk_lt BW.out; have h6 := blk_lt BX.out; omega⟩
  have HP2 := Aside0.mk (Kd.R_below HP.out HBB.out)
  have x7 : w2.cell? ⟨g, 7, none⟩ = some (.bool s.reap) := (blk_cell BG2.out 7).trans rfl
  have x8 : w2.frozen? ⟨g, 7, none⟩ = false := blk_frozen BG2.out 7
  go_upto_region 8 with (fail)
  have n1_ : Aside0 ((w2.setCell ⟨g, 7, none⟩ (.bool true)).heap[g]? = some (.cells (scC s.lim true v) 26 (0, 0))) := ⟨blk_put BG2.out 7 _ rfl⟩
  have n2_ : Aside0 ((w2.setCell ⟨g, 7, none⟩ (.bool true)).heap[bx]? = some (.cells #[.slice A1 r.length r.length] 52 (0, 0))) := ⟨blk_far BX.out (by have := HGX.out; show bx ≠ g; omega) _⟩
  have n3_ : Aside0 (WordsIn (w2.setCell ⟨g, 7, none⟩ (.bool true)) A1 r) := ⟨WSI.out.fr (base := w2.heap.size) (fr_set (Fr.refl _ _ _) 7 _) (Nat.le_refl _) (fun ad hA => by rw [HT.out.2 ad hA]; have := HGX.out; omega)⟩
  have n4_ : Aside0 (Below g w (w2.setCell ⟨g, 7, none⟩ (.bool true))) := ⟨below_setG (HBB.out.mono (Nat.le_of_lt GW.out)) (Nat.le_refl _) _ _⟩
  have n5_ : Aside0 (Kd.R k29 29 (w2.setCell ⟨g, 7, none⟩ (.bool true)) (g + 1) (fun _ => True) v s.picks) := ⟨Kd.R_mono (Kd.R_far (Kd.R_bound HP2.out) (fun k hk => by have := hk.2.1; show k ≠ g; omega) _) (fun _ _ => trivial)⟩
  generalize w2.setCell ⟨g, 7, none⟩ (.bool true) = w3 at n1_ n2_ n3_ n4_ n5_ ⊢
  clear BG2 BX WSI HBB HP2 HB HB2 BW BW2 x0 x7 x8
  go_wp2_with (go_at_call 34; refine (take_any g 26 (scC s.lim true v) [] none 0 bx A1 r.length r w3 w0 HL.out (HB0.out.trans (n4_.out.mono HG0.out)) HG0.out n1_.out (fun o ho => by cases ho) (by decide) (fun j o hj => by simp at hj) n2_.out (by have := HGX.out; omega) n3_.out (fun ad hA => by rw [HT.out.2 ad hA]; have := HGX.out; omega) HRL.out HSZ.out).mono ?_; rintro e w5 htk; have HTK := Aside0.mk htk; clear htk; obtain ⟨ev, hev⟩ := HTK.out.ret; subst hev)
  go_ret
  have h := HTK.out
  unfold TakeSays at h
  have hgl : g < w3.heap.size := blk_lt n1_.out
  have hR := HR.out
  cases htk : takeOf 0 r with
  | none =>
    rw [htk] at hR
    subst hR
    rw [show ([] : List Nat).length = 0 from rfl, htk] at h
    obtain ⟨⟨a, h1, h2, h3⟩, _, h4⟩ := h
    injection h1 with h1
    subst h1
    exact ⟨⟨a, rfl, h2, by omega⟩, n4_.out.trans (h4.below (Nat.le_of_lt hgl) (Nat.le_refl _))⟩
  | some ns =>
    rw [htk] at hR
    subst hR
    rw [show ([] : List Nat).length = 0 from rfl, htk] at h
    obtain ⟨h1, h2, h4⟩ := h
    injection h1 with h1
    subst h1
    refine ⟨rfl, ⟨v, h2, ?_⟩, n4_.out.trans (h4.below (Nat.le_of_lt hgl) (Nat.le_refl _))⟩
    exact Kd.R_mono (Kd.R_step (Kd.R_bound n5_.out) (fun k hk hlt => h4.block k hlt (by have := hk.2.1; omega))) (fun _ _ => trivial)
set_option maxRecDepth 100000 in
set_option maxHeartbeats 8000000 in
theorem reads_1n (g : Nat) (s : Scr) (v : Value) (l : ByteArray) (w w0 : World) (t : ByteArray) (r : List ByteArray)
    (hL : LW w0) (hB0 : Below w0.heap.size w0 w) (hg0 : w0.heap.size ≤ g) (hg : w.heap[g]? = some (.cells (scC s.lim s.reap v) 26 (0, 0))) (hp : Kd.R k29 29 w (g + 1) (fun _ => True) v s.picks) (hs : l.size < 4294967281) (hw : wordsL l = t :: r) (hq : ¬ (t.toList = wKeep ∨ t.toList = wReap)) :
    Calls Tryd.prog 19 #[.pointer (some ⟨g, 0, none⟩), .int .i64 1, .string l] w (ReadsSays w g (readsW 1 s t.toList r)) := by
  have HR : Aside0 (readsW 1 s t.toList r = .error 170) := ⟨by unfold readsW; rw [if_neg (by decide), if_pos rfl, if_neg hq]⟩
  generalize readsW 1 s t.toList r = rr at HR ⊢
  have hq1 : (t.toList == [107, 101, 101, 112]) = false := beq_eq_false_iff_ne.2 (fun h => hq (Or.inl h))
  have hq2 : (t.toList == [114, 101, 97, 112]) = false := beq_eq_false_iff_ne.2 (fun h => hq (Or.inr h))
  clear hq
  have HL := Aside0.mk hL
  have HB0 := Aside0.mk hB0
  have HG0 := Aside0.mk hg0
  have BG := Aside0.mk hg
  have HS := Aside0.mk hs
  have HW := Aside0.mk hw
  have HP := Aside0.mk hp
  have HN : Aside0 (Lib.countB l space = r.length) := ⟨by have := words_length l _ rfl; rw [hw, List.length_cons] at this; omega⟩
  have HRL : Aside0 (r.length ≤ 4294967296) := ⟨by have := count_le l; have := HN.out; omega⟩
  have HSZ : Aside0 (∀ t ∈ r, t.size ≤ 281474976710656) := ⟨fun u hu => by have := word_size l u (by rw [hw]; exact List.mem_cons_of_mem _ hu); omega⟩
  have HLW : Aside0 (LW w) := ⟨HL.out.below HB0.out⟩
  have GW := Aside0.mk (blk_lt hg)
  obtain ⟨bw, hbw⟩ : ∃ k, k = w.heap.size := ⟨_, rfl⟩
  have HBW := Aside0.mk hbw
  obtain ⟨A1, hsl, ht⟩ := words_cut bw t r
  have HT := Aside0.mk ht
  clear hL hB0 hg0 hg hs hw hbw ht hp
  go_enter Tryd.func19, Tryd.ntmps19
  go_upto_region 3 with (first
    | (go_at_call 24; refine (split_any l r.length HN.out _ HS.out HLW.out).mono ?_; rw [← HBW.out]; rintro e w1 ⟨rfl, hbk, hb⟩; rw [HW.out] at hbk; have BW := Aside0.mk hbk; have HB := Aside0.mk hb; clear hbk hb)
    | (go_at_call 25; refine (taker_any _ _ _ _).mono ?_; rintro e w2 ⟨rfl, hw2⟩; have x0 : w2.cell? ⟨bw, 0, none⟩ = some (.string t) := (by rw [hw2]; exact pw_cell_below (bel1 w1 _) ((blk_cell BW.out 0).trans rfl)); obtain ⟨bx, hbx⟩ : ∃ k, k = w1.heap.size := ⟨_, rfl⟩; rw [← hbx]; have BX : Aside0 (w2.heap[bx]? = some (.cells #[.slice A1 r.length r.length] 52 (0, 0))) := (by rw [hw2, hbx]; exact ⟨heap_alloc_new w1 _⟩); have HB2 : Aside0 (Below w1.heap.size w1 w2) := (by rw [hw2]; exact ⟨bel1 w1 _⟩); have HBX : Aside0 (bx = w1.heap.size) := ⟨hbx⟩; clear hw2 hbx))
  have HBB : Aside0 (Below w.heap.size w w2) := ⟨by have h1 := HB.out; rw [HBW.out] at h1; exact below_step h1 HB2.out⟩
  have BG2 := Aside0.mk (blk_below BG.out HBB.out)
  have BW2 := Aside0.mk (blk_below BW.out HB2.out)
  have WSI := Aside0.mk ((HT.out.1 w2) BW2.out)
  have HGX : Aside0 (g < bx ∧ g < bw ∧ bx < w2.heap.size) := ⟨by have h1 := GW.out; have h2 := HBW.out; have h3 := HBX.out; have h4 := HB.out.size; have h5 := blk_lt BW.out; have h6 := blk_lt BX.out; omega⟩
  have HP2 := Aside0.mk (Kd.R_below HP.out HBB.out)
  clear HP2 WSI BW2 BG2 BX
  go_wp2_with ((go_at_call 18; refine (word_any _).mono ?_; rintro e w9 ⟨rfl, hw9⟩; have HW9 := Aside0.mk hw9; clear hw9))
  rw [HR.out]
  go_ret
  have h9 := HW9.out
  subst h9
  exact ⟨⟨_, rfl, heap_alloc_new _ _, by have := HGX.out; omega⟩, (below_alloc HBB.out _).mono (Nat.le_of_lt GW.out)⟩
end Go.Proofs.YtmoebchaiokamaaDoor.Given
