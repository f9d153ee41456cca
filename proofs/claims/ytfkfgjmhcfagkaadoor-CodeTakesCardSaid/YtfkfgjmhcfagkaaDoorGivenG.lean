/- The contract of code.Print. -/
import Derived.Test.YtfkfgjmhcfagkaaDoorGivenF
import Derived.Lib.ItoaLen
import Derived.Laws.CopyOwn
namespace Go.Proofs.YtfkfgjmhcfagkaaDoor.Given
open Go.RowKit Go.Proofs.YtfkfgjmhcfagkaaDoorW.PrintWords Go.Proofs.YtfkfgjmhcfagkaaDoorW.PrintLast Go.Proofs.YtfkfgjmhcfagkaaDoorW.PrintMore Go.Proofs.YtfkfgjmhcfagkaaDoor.Print
set_option linter.unusedVariables false
set_option linter.unusedSimpArgs false

def typeWord : ByteArray := ⟨#[116, 121, 112, 101]⟩
def progWord : ByteArray := ⟨#[112, 114, 111, 103]⟩
def typeLine (t : S54) : ByteArray := lineOf typeWord ([t.f0, flagOf t.f2] ++ t.f1)
def progLine (p : S57) : ByteArray := lineOf progWord [p.f0, p.f1, p.f2, flagOf p.f3]
def typesText (acc : ByteArray) (l : List S54) : ByteArray := l.foldl (fun acc t => acc ++ typeLine t) acc
def codeText (acc : ByteArray) (l : List S28) : ByteArray := l.foldl (fun acc x => acc ++ insLine x.f0 x.f1 x.f2 x.f3) acc
def progText (acc : ByteArray) (p : S57) : ByteArray := codeText (acc ++ progLine p) p.f4
def progsText (acc : ByteArray) (l : List S57) : ByteArray := l.foldl progText acc
def cleanCode (l : List S28) : Bool := l.all fun x => cleanIns x.f0 x.f1 x.f2 x.f3
def cleanProgs (l : List S57) : Bool := l.all fun p => cleanCode p.f4
def fullText (ps : List S57) (ts : List S54) : ByteArray := progsText (typesText ⟨#[]⟩ ts) ps
def wfI (x : S28) : Prop := (∀ n ∈ x.f3, (Lit.int .i64 n).wf = true) ∧ (Lit.int .i64 x.f1).wf = true ∧ (Lit.int .i64 x.f2).wf = true ∧ x.f3.length ≤ 100000000000
def wfT (t : S54) : Prop := (∀ n ∈ t.f1, (Lit.int .i64 n).wf = true) ∧ (Lit.int .i64 t.f0).wf = true ∧ t.f1.length ≤ 100000000000
def wfP (p : S57) : Prop := (Lit.int .i64 p.f0).wf = true ∧ (Lit.int .i64 p.f1).wf = true ∧ (Lit.int .i64 p.f2).wf = true ∧ ∀ x ∈ p.f4, wfI x



def printOf (ps : List S57) (ts : List S54) : ByteArray × Int := if cleanProgs ps then (fullText ps ts, 0) else (⟨#[]⟩, 80)
def P5T : Bool × List (List Nat × List Nat) := (true, [([], []), ([0], [0]), ([], []), ([2], [2]), ([3], [3]), ([1, 4], [1, 4]), ([], []), ([6], [6]), ([5, 7, 4], [5, 7]), ([8, 8], [8]), ([9, 9], [9])])
def P5B : List Nat := [0, 1, 0, 4, 12, 31, 0, 64, 255, 511, 1023]
theorem p5tab : rtab .any (opsOf Tryd.f22 5) = P5T := by kernel_rfl
theorem p5bits : waitsOk P5T.2 P5B = true := by kernel_rfl
def P10T : Bool × List (List Nat × List Nat) := (true, [([], []), ([0], [0]), ([], []), ([2], [2]), ([], []), ([4], [4]), ([], []), ([6], [6]), ([7], [7]), ([1, 3, 5, 8], [1, 3, 5, 8]), ([9, 8], [9]), ([10, 10], [10])])
def P10B : List Nat := [0, 1, 0, 4, 0, 16, 0, 64, 192, 511, 1023, 2047]
theorem p10tab : rtab .any (opsOf Tryd.f22 10) = P10T := by kernel_rfl
theorem p10bits : waitsOk P10T.2 P10B = true := by kernel_rfl

theorem fold_size {α : Type} (f : ByteArray → α → ByteArray) (hf : ∀ a x, a.size ≤ (f a x).size) : ∀ (l : List α) (a : ByteArray), a.size ≤ (l.foldl f a).size
  | [], _ => Nat.le_refl _
  | x :: l, a => Nat.le_trans (hf a x) (fold_size f hf l (f a x))
theorem fold_take {α : Type} (f : ByteArray → α → ByteArray) (l : List α) (a : ByteArray) (k : Nat) (h : k < l.length) : (l.take (k + 1)).foldl f a = f ((l.take k).foldl f a) l[k] := by
  rw [List.take_succ_eq_append_getElem h, List.foldl_append]
  rfl
theorem fold_le {α : Type} (f : ByteArray → α → ByteArray) (hf : ∀ a x, a.size ≤ (f a x).size) (l : List α) (a : ByteArray) (k : Nat) : ((l.take k).foldl f a).size ≤ (l.foldl f a).size := by
  have h : l.foldl f a = (l.drop k).foldl f ((l.take k).foldl f a) := by rw [← List.foldl_append, List.take_append_drop]
  rw [h]
  exact fold_size f hf _ _
theorem grow_app (a b : ByteArray) : a.size ≤ (a ++ b).size := by rw [size_append]; omega
theorem code_grow (a : ByteArray) (l : List S28) : a.size ≤ (codeText a l).size := fold_size _ (fun _ _ => grow_app _ _) l a
theorem prog_grow (a : ByteArray) (p : S57) : a.size ≤ (progText a p).size := Nat.le_trans (grow_app _ _) (code_grow _ _)
theorem fresh_builder (b : Nat) (w : World) (h : w.heap[b]? = some (.cells #[.pointer none, .slice none 0 0] 69 (0, 0))) : Lib.IsBuilder 69 5 b b (Lib.strCells ⟨#[]⟩) w :=
  .inl ⟨Nat.le_refl _, _, h, ⟨rfl, .inl ⟨rfl, rfl⟩⟩, by simp [Value.ownBlock]⟩

theorem ins_good (op a b : Int) (A : Option Addr) (c : Nat) (l : List Int) (w : World) (hc : cleanIns op a b l = true) (hr : Kd.C (Kd.int .i64) w A l.length l) (hl : ∀ n ∈ l, (Lit.int .i64 n).wf = true) (ha : (Lit.int .i64 a).wf = true) (hb : (Lit.int .i64 b).wf = true) (hL' : LW w) (hlen : l.length ≤ 100000000000)
    (hsz : (insLine op a b l).size ≤ 9223372036854775807) :
    Calls Tryd.prog 39 #[.agg #[.int .i64 op, .int .i64 a, .int .i64 b, .slice A l.length c]] w fun e w' => e = .returned (.tuple #[.string (insLine op a b l), .bool true]) ∧ Below w.heap.size w w' := by
  have h := ins_any op a b A c l w hr hl ha hb hL' hlen hsz
  rwa [show insOf op a b l = (insLine op a b l, true) by unfold insOf; rw [if_pos hc]] at h
theorem ins_bad (op a b : Int) (A : Option Addr) (c : Nat) (l : List Int) (w : World) (hc : cleanIns op a b l = false) (hr : Kd.C (Kd.int .i64) w A l.length l) (hl : ∀ n ∈ l, (Lit.int .i64 n).wf = true) (ha : (Lit.int .i64 a).wf = true) (hb : (Lit.int .i64 b).wf = true) (hL' : LW w) (hlen : l.length ≤ 100000000000)
    (hsz : (insLine op a b l).size ≤ 9223372036854775807) :
    Calls Tryd.prog 39 #[.agg #[.int .i64 op, .int .i64 a, .int .i64 b, .slice A l.length c]] w fun e w' => e = .returned (.tuple #[.string ⟨#[]⟩, .bool false]) ∧ Below w.heap.size w w' := by
  have h := ins_any op a b A c l w hr hl ha hb hL' hlen hsz
  rwa [show insOf op a b l = (⟨#[]⟩, false) by unfold insOf; rw [if_neg (by rw [hc]; decide)]] at h
theorem string_on (b : Nat) (acc : ByteArray) (w : World) (h : Lib.IsBuilder 69 5 b b (Lib.strCells acc) w) : Calls Tryd.prog 40 #[.pointer (some ⟨b, 0, none⟩)] w fun e w' => e = .returned (.string acc) ∧ Below b w w' := by
  have hBw : b ≤ w.heap.size := by
    rcases h with h | h
    · exact Nat.le_of_lt h.lt
    · exact Nat.le_of_lt h.lt
  have hk := Tryd.Builder_String_any b b acc.data.toList w h hBw
  have he : (⟨acc.data.toList.toArray⟩ : ByteArray) = acc := by cases acc; simp
  rwa [he] at hk

set_option maxRecDepth 100000 in
set_option maxHeartbeats 8000000 in
theorem print_any (A0 : Option Addr) (c0 : Nat) (ps : List S57) (A1 : Option Addr) (c1 : Nat) (ts : List S54) (w : World) (hp : Kd.C k57 w A0 ps.length ps) (ht : Kd.C k54 w A1 ts.length ts) (hL : LW w) (hwt : ∀ t ∈ ts, wfT t) (hwp : ∀ p ∈ ps, wfP p) (hsz : (fullText ps ts).size + 1 ≤ 140737488355328) :
    Calls Tryd.prog 22 #[.agg #[.slice A0 ps.length c0, .slice A1 ts.length c1]] w fun e w' => e = .returned (.tuple #[.string (printOf ps ts).1, .int .i64 (printOf ps ts).2]) ∧ Below w.heap.size w w' := by
  have mp := hp.2.1
  have mt := ht.2.1
  have hu36 := Tryd.underlying36
  have hu54 := Tryd.underlying54
  have hu57 := Tryd.underlying57
  have hu28 := Tryd.underlying28
  have HP := Aside0.mk hp
  have HT := Aside0.mk ht
  have HL := Aside0.mk hL
  have HWT := Aside0.mk hwt
  have HWP := Aside0.mk hwp
  have HSZ := Aside0.mk hsz
  clear hp ht hL hwt hwp hsz
  go_enter Tryd.func22, Tryd.ntmps22
  go_wp2_with (first
    | ((with_reducible refine gate_dst (N := 1) rfl ?_); refine box_event ?hg (N := 1) ?hd (cs := #[.slice A0 ps.length c0, .slice A1 ts.length c1]) (t := 36) ?hr ?_; (case hd => rfl); (case hg => rfl); (case hr => first | (go_simp; done) | (go_simp; rfl)); intro gb hg w2 hbox hb; have BK0 := Aside0.mk hbox; have HB0 := Aside0.mk hb; clear hg hbox hb)
    | ((with_reducible refine gate_dst (N := 4) rfl ?_); refine box_event ?hg (N := 4) ?hd (cs := #[.pointer none, .slice none 0 0]) (t := 69) ?hr ?_; (case hd => rfl); (case hg => rfl); (case hr => first | (go_simp; done) | (go_simp; rfl)); intro bb hg w3 hbox hb; have HX := Aside0.mk (fresh_builder bb w3 hbox); have GE := Aside0.mk (show w.heap.size ≤ bb by rw [hg]; exact HB0.out.size); have BK := Aside0.mk (blk_below BK0.out hb); have HB := Aside0.mk (below_then HB0.out HB0.out.size hb); clear BK0 HB0; have hc0 : w3.cell? ⟨gb, 0, none⟩ = some (.slice A0 ps.length c0) := (blk_cell BK.out 0).trans rfl; have hc1 : w3.cell? ⟨gb, 1, none⟩ = some (.slice A1 ts.length c1) := (blk_cell BK.out 1).trans rfl; clear hg hbox hb))
  clear hc0 hc1
  go_loopw [16] (fun i wr => ∃ k : Nat, i = .int .i64 k ∧ k ≤ ts.length ∧ Aside0 (Lib.IsBuilder 69 5 bb bb (Lib.strCells (typesText ⟨#[]⟩ (ts.take k))) wr) ∧ Aside0 (wr.heap[gb]? = some (.cells #[.slice A0 ps.length c0, .slice A1 ts.length c1] 36 (0, 0))) ∧ Aside0 (Below w.heap.size w wr)) (fun i _ => ts.length - (intOf i).toNat)
  case atStart => exact ⟨0, rfl, by omega, HX, BK, HB⟩
  case round =>
    clear HX BK HB
    obtain ⟨k, rfl, hk, HX, BK, HB⟩ := hrel
    by_cases hlt : k < ts.length
    · obtain ⟨ad, A2, c2, e, x0, x1, x2, hl, hi⟩ := at_T54 HT.out (k : Int) (by omega) (by omega)
      cases e
      have hrd : rd_T54 ts (k : Int) = ts[k] := by simp [rd_T54, hlt]
      rw [hrd] at x0 x1 x2 hl hi
      rw [Int.toNat_natCast] at x0 x1 x2
      replace x0 := pw_cell_below HB.out x0
      replace x1 := pw_cell_below HB.out x1
      replace x2 := pw_cell_below HB.out x2
      have HTX : Aside0 (typesText ⟨#[]⟩ (ts.take (k + 1)) = typesText ⟨#[]⟩ (ts.take k) ++ typeLine ts[k]) := ⟨fold_take _ ts ⟨#[]⟩ k hlt⟩
      have HWK := Aside0.mk (HWT.out ts[k] (List.getElem_mem hlt))
      generalize ts[k] = t at x0 x1 x2 hl hi HTX HWK
      have HI := Aside0.mk hi
      clear hi hrd
      have hsz2 : (typesText ⟨#[]⟩ (ts.take k)).size + (typeLine t).size + 1 ≤ 140737488355328 := by
        have h1 := fold_le (fun acc t => acc ++ typeLine t) (fun _ _ => grow_app _ _) ts ⟨#[]⟩ (k + 1)
        have h2 := fold_size progText prog_grow ps (typesText ⟨#[]⟩ ts)
        have h3 := HSZ.out
        have h4 := congrArg ByteArray.size HTX.out
        rw [size_append] at h4
        simp only [fullText, progsText, typesText] at h1 h2 h3 h4 ⊢
        omega
      have HS2 := Aside0.mk hsz2
      clear hsz2
      try go_wp2_with (first | ((with_reducible refine gate_dst (N := 6) rfl ?_); refine box_event ?hg (N := 6) ?hd (cs := #[.int .i64 0, .slice none 0 0, .bool false]) (t := 54) ?hr ?_; (case hd => rfl); (case hg => rfl); (case hr => first | (go_simp; done) | (go_simp; rfl)); intro g6 hg w4 hbox hb; have BK6 := Aside0.mk hbox; have HBW := Aside0.mk hb; have GE6 := Aside0.mk (Nat.le_of_eq hg.symm); have hz0 : w4.cell? ⟨g6, 0, none⟩ = some (.int .i64 0) := (blk_cell hbox 0).trans rfl; have hf0 := blk_frozen hbox 0; have hz1 : w4.cell? ⟨g6, 1, none⟩ = some (.slice none 0 0) := (blk_cell hbox 1).trans rfl; have hf1 := blk_frozen hbox 1; have hz2 : w4.cell? ⟨g6, 2, none⟩ = some (.bool false) := (blk_cell hbox 2).trans rfl; have hf2 := blk_frozen hbox 2; clear hg hbox hb))
      clear hz0 hf0 hz1 hf1 hz2 hf2
      have n0_ := Aside0.mk (blk_put (cs := #[.int .i64 t.f0, .slice A2 t.f1.length c2, .bool false]) (blk_put (cs := #[.int .i64 t.f0, .slice none 0 0, .bool false]) (blk_put (cs := #[.int .i64 0, .slice none 0 0, .bool false]) BK6.out 0 (.int .i64 t.f0) rfl) 1 (.slice A2 t.f1.length c2) rfl) 2 (.bool t.f2) rfl)
      have n1_ := Aside0.mk (below_set (g := g6) (j := 2) (v := .bool t.f2) (below_set (g := g6) (j := 1) (v := .slice A2 t.f1.length c2) (below_set (g := g6) (j := 0) (v := .int .i64 t.f0) HBW.out GE6.out) GE6.out) GE6.out)
      generalize (((w4.setCell ⟨g6, 0, none⟩ (.int .i64 t.f0)).setCell ⟨g6, 1, none⟩ (.slice A2 t.f1.length c2)).setCell ⟨g6, 2, none⟩ (.bool t.f2)) = w5 at n0_ n1_ ⊢
      have n2_ := Aside0.mk (builder_below HX.out n1_.out)
      have n3_ := Aside0.mk (blk_below BK.out n1_.out)
      have n4_ := Aside0.mk (below_then HB.out HB.out.size n1_.out)
      clear BK6 HBW HX BK HB
      have BK6 := Aside0.mk (blk_drew n0_.out)
      have HX := Aside0.mk (builder_below n2_.out (below_drew (Below.refl _ _)))
      have BK := Aside0.mk (blk_drew n3_.out)
      have HB := Aside0.mk (below_drew1 n4_.out)
      have HI5 := Aside0.mk (Kd.C_below HI.out HB.out)
      clear n0_ n1_ n2_ n3_ n4_
      obtain ⟨xs, hxs⟩ : ∃ xs, xs = [t.f0, flagOf t.f2] ++ t.f1 := ⟨_, rfl⟩
      have HXS := Aside0.mk hxs
      have HWX : Aside0 (∀ n ∈ xs, (Lit.int .i64 n).wf = true) := ⟨by
        intro n hn
        rw [hxs] at hn
        simp only [List.mem_append, List.mem_cons, List.not_mem_nil, or_false] at hn
        rcases hn with (rfl | rfl) | hn
        · exact HWK.out.2.1
        · cases t.f2 <;> rfl
        · exact HWK.out.1 n hn⟩
      have hln : lineOf typeWord xs = typeLine t := by rw [hxs]; rfl
      have HLN := Aside0.mk hln
      have HSX : Aside0 ((wordsOf typeWord xs).size + 1 ≤ 9223372036854775807) := ⟨by
        have h1 : (lineOf typeWord xs).size = (wordsOf typeWord xs).size + 1 := by rw [lineOf, size_append]; rfl
        have h2 := HS2.out
        rw [← hln] at h2
        omega⟩
      clear hxs hln
      refine start_ (n := 11) (S := fun w' => w'.cell? ⟨g6, 0, none⟩ = some (.int .i64 t.f0) ∧ w'.cell? ⟨g6, 1, none⟩ = some (.slice A2 t.f1.length c2) ∧ w'.cell? ⟨g6, 2, none⟩ = some (.bool t.f2)) (ds := []) #[false, false, false, false, false, false, false, false, false, false, false] (by kernel_rfl) rfl rfl ⟨(blk_cell BK6.out 0).trans rfl, (blk_cell BK6.out 1).trans rfl, (blk_cell BK6.out 2).trans rfl⟩ (fun hHeld => ?_)
      refine with_tabW p5tab p5bits (fun HT_ HW_ => ?_)
      generalize w5.drew = w6 at BK6 HX BK HB HI5 hHeld ⊢
      refine pure_ (i := 0) (N := some 20) (v := ?_) (a' := ?_) #[true, false, false, false, false, false, false, false, false, false, false] rfl rfl (any_of HT_.out (by kernel_rfl)) (fun _ _ _ h => h) (Or.inl ⟨by rfl, ?_⟩) ?_ ?_
      rotate_left
      · intro w'
        go_simp
        with_reducible rfl
      rotate_left
      · simp only [Act.put, List.setIfInBounds_toArray, List.set_cons_zero, List.set_cons_succ, i64_w, i32_w]
        rfl
      refine pure_ (i := 2) (N := some 22) (v := ?_) (a' := ?_) #[true, false, true, false, false, false, false, false, false, false, false] rfl rfl (any_of HT_.out (by kernel_rfl)) (fun _ _ _ h => h) (Or.inl ⟨by rfl, ?_⟩) ?_ ?_
      rotate_left
      · intro w'
        go_simp
        with_reducible rfl
      rotate_left
      · simp only [Act.put, List.setIfInBounds_toArray, List.set_cons_zero, List.set_cons_succ, i64_w, i32_w]
        rfl
      refine pure_ (i := 6) (N := some 26) (v := ?_) (a' := ?_) #[true, false, true, false, false, false, true, false, false, false, false] rfl rfl (any_of HT_.out (by kernel_rfl)) (fun _ _ _ h => h) (Or.inl ⟨by rfl, ?_⟩) ?_ ?_
      rotate_left
      · intro w'
        go_simp
        with_reducible rfl
      rotate_left
      · simp only [Act.put, List.setIfInBounds_toArray, List.set_cons_zero, List.set_cons_succ, i64_w, i32_w]
        rfl
      refine take_ (i := 1) (N := some 21) (v := ?_) (a' := ?_) #[true, true, true, false, false, false, true, false, false, false, false] rfl rfl (take_ofW HT_.out HW_.out (by kernel_rfl)) (fun _ _ _ h => h) (Or.inl ⟨by rfl, ?_⟩) hHeld ?_ ?_
      rotate_left
      · rintro w' ⟨s0, s1, s2⟩
        go_simp
        with_reducible rfl
      rotate_left
      · simp only [Act.put, List.setIfInBounds_toArray, List.set_cons_zero, List.set_cons_succ, i64_w, i32_w]
        rfl
      refine take_ (i := 3) (N := some 23) (v := ?_) (a' := ?_) #[true, true, true, true, false, false, true, false, false, false, false] rfl rfl (take_ofW HT_.out HW_.out (by kernel_rfl)) (fun _ _ _ h => h) (Or.inl ⟨by rfl, ?_⟩) hHeld ?_ ?_
      rotate_left
      · rintro w' ⟨s0, s1, s2⟩
        go_simp
        with_reducible rfl
      rotate_left
      · simp only [Act.put, List.setIfInBounds_toArray, List.set_cons_zero, List.set_cons_succ, i64_w, i32_w]
        rfl
      refine take_ (i := 7) (N := some 27) (v := ?_) (a' := ?_) #[true, true, true, true, false, false, true, true, false, false, false] rfl rfl (take_ofW HT_.out HW_.out (by kernel_rfl)) (fun _ _ _ h => h) (Or.inl ⟨by rfl, ?_⟩) hHeld ?_ ?_
      rotate_left
      · rintro w' ⟨s0, s1, s2⟩
        go_simp
        with_reducible rfl
      rotate_left
      · simp only [Act.put, List.setIfInBounds_toArray, List.set_cons_zero, List.set_cons_succ, i64_w, i32_w]
        rfl
      refine one_ (i := 4) (N := some 24) #[true, true, true, true, true, false, true, true, false, false, false] rfl rfl (one_of HT_.out (by kernel_rfl)) (by decide) (fun K hK => ?_)
      refine goes_ Tryd.func38 (by kernel_rfl) rfl #[.bool t.f2] (by rfl) rfl rfl (by (try simp only [List.map_toArray, List.map_cons, List.map_nil]); first | done | rfl) ?_
      refine (flag_any t.f2 _).mono ?_
      rintro e w' ⟨rfl, hw⟩
      rw [hw]
      clear hw
      refine ⟨_, rfl, ?_⟩
      refine hK.out _ _ ⟨(blk_cell BK6.out 0).trans rfl, (blk_cell BK6.out 1).trans rfl, (blk_cell BK6.out 2).trans rfl⟩ (fun hHeld => ?_)
      clear hK K
      refine norm_ (a' := ?_) ?_ ?_
      rotate_left
      · show Act.put _ (some 24) _ = _
        simp only [Act.put, List.setIfInBounds_toArray, List.set_cons_zero, List.set_cons_succ, i64_w, i32_w]
        rfl
      refine one_ (i := 5) (N := some 25) #[true, true, true, true, true, true, true, true, false, false, false] rfl rfl (one_of HT_.out (by kernel_rfl)) (by decide) (fun K hK => ?_)
      refine Kd.R_lit_step (Kd.int .i64) _ 3 ?hg (N := 25) ?hd (xs := ([t.f0, flagOf t.f2] : List Int)) (inner := [.int .i64 t.f0, .int .i64 (flagOf t.f2)]) (ok := fun _ => True) (okp := fun _ => True) ?hr ?hp (fun _ hk => hk) trivial (Below.refl _ _) (Nat.le_refl _) (by simp) ?_; (case hd => rfl); (case hg => rfl); (case hr => first | (go_simp; done) | (go_simp; rfl)); (case hp => exact (Reps.one (show Kd.M (Kd.int .i64) _ _ _ t.f0 [.int .i64 t.f0] from rfl) (Reps.one (show Kd.M (Kd.int .i64) _ _ _ (flagOf t.f2) [.int .i64 (flagOf t.f2)] from rfl) (Reps.none _ _))))
      intro v7 w7 ho7 hb hg_ hnew_
      clear hg_ hnew_
      have HO7 := Aside0.mk ho7
      have BK7 := Aside0.mk (blk_below BK6.out hb)
      have HB7 := Aside0.mk hb
      clear ho7 hb
      refine hK.out _ _ ⟨(blk_cell BK7.out 0).trans rfl, (blk_cell BK7.out 1).trans rfl, (blk_cell BK7.out 2).trans rfl⟩ (fun hHeld => ?_)
      clear hK K
      refine norm_ (a' := ?_) ?_ ?_
      rotate_left
      · show Act.put _ (some 25) _ = _
        simp only [Act.put, List.setIfInBounds_toArray, List.set_cons_zero, List.set_cons_succ, i64_w, i32_w]
        rfl
      refine one_ (i := 8) (N := some 28) #[true, true, true, true, true, true, true, true, true, false, false] rfl rfl (one_of HT_.out (by kernel_rfl)) (by decide) (fun K hK => ?_)
      refine Kd.R_append_rows_step (Kd.int .i64) (w0 := w6) w6.heap.size (by rfl) (.tmp 25) (.tmp 27) 26 3 (.int .i64 0) 8 (by rfl) Tryd.underlying26 info3 (by rfl) (by decide) (by omega) v7 [t.f0, flagOf t.f2] t.f1 A2 t.f1.length c2 (fun _ => True) (fun _ => False) (by rfl) (by rfl) HO7.out (Kd.C_below HI5.out HB7.out) (fun _ _ h => h) (fun _ h => h.elim) (fun _ _ => trivial) HB7.out HB7.out.size ?aL ?_
      (case aL => have := HWK.out.2.2; simp; omega)
      intro v9 w9 ho9 hb _ _
      rw [← HXS.out] at ho9
      obtain ⟨A9, c9, rfl, hc9, hC9⟩ := Kd.R_reads ho9
      have HC9 := Aside0.mk hC9
      clear ho9 hC9
      have n2_ := Aside0.mk (builder_below HX.out hb)
      have n3_ := Aside0.mk (blk_below BK.out hb)
      have n4_ := Aside0.mk (below_then HB.out HB.out.size hb)
      have n0_ := Aside0.mk (blk_below BK6.out hb)
      clear HX BK HB BK6 hb
      have HX := n2_
      have BK := n3_
      have HB := n4_
      have BK6 := n0_
      clear n0_ n2_ n3_ n4_
      clear BK7 HB7 HO7
      refine hK.out _ _ ⟨(blk_cell BK6.out 0).trans rfl, (blk_cell BK6.out 1).trans rfl, (blk_cell BK6.out 2).trans rfl⟩ (fun hHeld => ?_)
      clear hK K
      refine norm_ (a' := ?_) ?_ ?_
      rotate_left
      · show Act.put _ (some 28) _ = _
        simp only [Act.put, List.setIfInBounds_toArray, List.set_cons_zero, List.set_cons_succ, i64_w, i32_w]
        rfl
      refine one_ (i := 9) (N := some 29) #[true, true, true, true, true, true, true, true, true, true, false] rfl rfl (one_of HT_.out (by kernel_rfl)) (by decide) (fun K hK => ?_)
      refine goes_ Tryd.func37 (by kernel_rfl) rfl #[.string typeWord, .slice A9 xs.length c9] (by rfl) rfl rfl (by (try simp only [List.map_toArray, List.map_cons, List.map_nil]); first | done | rfl) ?_
      refine (line_any A9 c9 xs typeWord _ HC9.out HWX.out (HL.out.below HB.out) HSX.out).mono ?_
      rintro e w10 ⟨rfl, hb⟩
      refine ⟨_, rfl, ?_⟩
      have n2_ := Aside0.mk (builder_below HX.out hb)
      have n3_ := Aside0.mk (blk_below BK.out hb)
      have n4_ := Aside0.mk (below_then HB.out HB.out.size hb)
      have n0_ := Aside0.mk (blk_below BK6.out hb)
      clear HX BK HB BK6 hb
      have HX := n2_
      have BK := n3_
      have HB := n4_
      have BK6 := n0_
      clear n0_ n2_ n3_ n4_
      refine hK.out _ _ ⟨(blk_cell BK6.out 0).trans rfl, (blk_cell BK6.out 1).trans rfl, (blk_cell BK6.out 2).trans rfl⟩ (fun hHeld => ?_)
      clear hK K
      refine norm_ (a' := ?_) ?_ ?_
      rotate_left
      · show Act.put _ (some 29) _ = _
        simp only [Act.put, List.setIfInBounds_toArray, List.set_cons_zero, List.set_cons_succ, i64_w, i32_w]
        rfl
      refine one_ (i := 10) (N := some 30) #[true, true, true, true, true, true, true, true, true, true, true] rfl rfl (one_of HT_.out (by kernel_rfl)) (by decide) (fun K hK => ?_)
      refine goes_ Tryd.func36 (by kernel_rfl) rfl #[.pointer (some ⟨bb, 0, none⟩), .string (lineOf typeWord xs)] (by rfl) rfl rfl (by (try simp only [List.map_toArray, List.map_cons, List.map_nil]); first | done | rfl) ?_
      refine (write_on bb (typesText ⟨#[]⟩ (ts.take k)) (lineOf typeWord xs) _ HX.out (by rw [HLN.out]; have := HS2.out; omega)).mono ?_
      rintro e w11 ⟨rfl, hx, hb, hk⟩
      refine ⟨_, rfl, ?_⟩
      have n2_ := Aside0.mk hx
      have n3_ := Aside0.mk (hk _ _ _ (by decide) (by decide) BK.out)
      have n4_ := Aside0.mk (HB.out.trans (hb.mono GE.out))
      have n0_ := Aside0.mk (hk _ _ _ (by decide) (by decide) BK6.out)
      clear HX BK HB BK6 hb hx hk
      have HX := n2_
      have BK := n3_
      have HB := n4_
      have BK6 := n0_
      clear n0_ n2_ n3_ n4_
      refine hK.out _ _ ⟨(blk_cell BK6.out 0).trans rfl, (blk_cell BK6.out 1).trans rfl, (blk_cell BK6.out 2).trans rfl⟩ (fun hHeld => ?_)
      clear hK K
      refine norm_ (a' := ?_) ?_ ?_
      rotate_left
      · show Act.put _ (some 30) _ = _
        simp only [Act.put, List.setIfInBounds_toArray, List.set_cons_zero, List.set_cons_succ, i64_w, i32_w]
        rfl
      refine done_ (done_of HT_.out (by kernel_rfl)) ?_
      go_wp2
      go_roundw
      case rel => exact ⟨k + 1, by go_num, by omega, by rw [HTX.out, ← HLN.out]; exact HX, BK, HB⟩
      case measure => simp [intOf]; omega
    · obtain rfl : k = ts.length := by omega
      rw [List.take_length] at HX
      have hc0 : wr.cell? ⟨gb, 0, none⟩ = some (.slice A0 ps.length c0) := (blk_cell BK.out 0).trans rfl
      obtain ⟨T0, hT0⟩ : ∃ T0, T0 = typesText ⟨#[]⟩ ts := ⟨_, rfl⟩
      rw [← hT0] at HX
      have HT0 := Aside0.mk hT0
      clear hT0
      go_wp2
      clear hc0
      go_loopw [35] (fun i wr2 => ∃ k : Nat, i = .int .i64 k ∧ k ≤ ps.length ∧ Aside0 (cleanProgs (ps.take k) = true) ∧ Aside0 (Lib.IsBuilder 69 5 bb bb (Lib.strCells (progsText T0 (ps.take k))) wr2) ∧ Aside0 (wr2.heap[gb]? = some (.cells #[.slice A0 ps.length c0, .slice A1 ts.length c1] 36 (0, 0))) ∧ Aside0 (Below w.heap.size w wr2)) (fun i _ => ps.length - (intOf i).toNat)
      case atStart => exact ⟨0, rfl, by omega, ⟨rfl⟩, HX, BK, HB⟩
      case round =>
        clear HX BK HB
        obtain ⟨k, rfl, hk, HCL, HX, BK, HB⟩ := hrel
        by_cases hlt : k < ps.length
        · obtain ⟨ad, A3, c3, e, x0, x1, x2, x3, x4, hl, hi⟩ := at_T57 HP.out (k : Int) (by omega) (by omega)
          cases e
          have hrd : rd_T57 ps (k : Int) = ps[k] := by simp [rd_T57, hlt]
          rw [hrd] at x0 x1 x2 x3 x4 hl hi
          rw [Int.toNat_natCast] at x0 x1 x2 x3 x4
          replace x0 := pw_cell_below HB.out x0
          replace x1 := pw_cell_below HB.out x1
          replace x2 := pw_cell_below HB.out x2
          replace x3 := pw_cell_below HB.out x3
          replace x4 := pw_cell_below HB.out x4
          have HTX : Aside0 (progsText T0 (ps.take (k + 1)) = progText (progsText T0 (ps.take k)) ps[k]) := ⟨fold_take progText ps T0 k hlt⟩
          have HC1 : Aside0 (cleanProgs (ps.take (k + 1)) = (cleanProgs (ps.take k) && cleanCode ps[k].f4)) := ⟨by rw [cleanProgs, cleanProgs, List.take_succ_eq_append_getElem hlt, List.all_append, List.all_cons, List.all_nil, Bool.and_true]⟩
          have HWK := Aside0.mk (HWP.out ps[k] (List.getElem_mem hlt))
          have HMEM := Aside0.mk (List.getElem_mem hlt)
          generalize ps[k] = p at x0 x1 x2 x3 x4 hl hi HTX HWK HMEM HC1
          have HI := Aside0.mk hi
          have hm4 := hi.2.1
          clear hi hrd
          have hsz2 : (progText (progsText T0 (ps.take k)) p).size + 1 ≤ 140737488355328 := by
            have h1 := fold_le progText prog_grow ps T0 (k + 1)
            have h3 := HSZ.out
            rw [fullText, ← HT0.out] at h3
            have h4 := congrArg ByteArray.size HTX.out
            simp only [progsText] at h1 h3 h4 ⊢
            omega
          have hsz3 : ((progsText T0 (ps.take k)).size + (progLine p).size) + 1 ≤ 140737488355328 := by
            have h1 := code_grow (progsText T0 (ps.take k) ++ progLine p) p.f4
            rw [size_append] at h1
            rw [progText] at hsz2
            omega
          have HS2 := Aside0.mk hsz2
          have HS3 := Aside0.mk hsz3
          clear hsz2 hsz3
          try go_wp2_with (first | ((with_reducible refine gate_dst (N := 8) rfl ?_); refine box_event ?hg (N := 8) ?hd (cs := #[.int .i64 0, .int .i64 0, .int .i64 0, .bool false, .slice none 0 0]) (t := 57) ?hr ?_; (case hd => rfl); (case hg => rfl); (case hr => first | (go_simp; done) | (go_simp; rfl)); intro g8 hg w4 hbox hb; have BK6 := Aside0.mk hbox; have HBW := Aside0.mk hb; have GE6 := Aside0.mk (Nat.le_of_eq hg.symm); have hz0 : w4.cell? ⟨g8, 0, none⟩ = some (.int .i64 0) := (blk_cell hbox 0).trans rfl; have hf0 := blk_frozen hbox 0; have hz1 : w4.cell? ⟨g8, 1, none⟩ = some (.int .i64 0) := (blk_cell hbox 1).trans rfl; have hf1 := blk_frozen hbox 1; have hz2 : w4.cell? ⟨g8, 2, none⟩ = some (.int .i64 0) := (blk_cell hbox 2).trans rfl; have hf2 := blk_frozen hbox 2; have hz3 : w4.cell? ⟨g8, 3, none⟩ = some (.bool false) := (blk_cell hbox 3).trans rfl; have hf3 := blk_frozen hbox 3; have hz4 : w4.cell? ⟨g8, 4, none⟩ = some (.slice none 0 0) := (blk_cell hbox 4).trans rfl; have hf4 := blk_frozen hbox 4; clear hg hbox hb))
          clear hz0 hf0 hz1 hf1 hz2 hf2 hz3 hf3 hz4 hf4
          have n0_ := Aside0.mk (blk_put (cs := #[.int .i64 p.f0, .int .i64 p.f1, .int .i64 p.f2, .bool p.f3, .slice none 0 0]) (blk_put (cs := #[.int .i64 p.f0, .int .i64 p.f1, .int .i64 p.f2, .bool false, .slice none 0 0]) (blk_put (cs := #[.int .i64 p.f0, .int .i64 p.f1, .int .i64 0, .bool false, .slice none 0 0]) (blk_put (cs := #[.int .i64 p.f0, .int .i64 0, .int .i64 0, .bool false, .slice none 0 0]) (blk_put (cs := #[.int .i64 0, .int .i64 0, .int .i64 0, .bool false, .slice none 0 0]) BK6.out 0 (.int .i64 p.f0) rfl) 1 (.int .i64 p.f1) rfl) 2 (.int .i64 p.f2) rfl) 3 (.bool p.f3) rfl) 4 (.slice A3 p.f4.length c3) rfl)
          have n1_ := Aside0.mk (below_set (g := g8) (j := 4) (v := .slice A3 p.f4.length c3) (below_set (g := g8) (j := 3) (v := .bool p.f3) (below_set (g := g8) (j := 2) (v := .int .i64 p.f2) (below_set (g := g8) (j := 1) (v := .int .i64 p.f1) (below_set (g := g8) (j := 0) (v := .int .i64 p.f0) HBW.out GE6.out) GE6.out) GE6.out) GE6.out) GE6.out)
          generalize (((((w4.setCell ⟨g8, 0, none⟩ (.int .i64 p.f0)).setCell ⟨g8, 1, none⟩ (.int .i64 p.f1)).setCell ⟨g8, 2, none⟩ (.int .i64 p.f2)).setCell ⟨g8, 3, none⟩ (.bool p.f3)).setCell ⟨g8, 4, none⟩ (.slice A3 p.f4.length c3)) = w5 at n0_ n1_ ⊢
          have n2_ := Aside0.mk (builder_below HX.out n1_.out)
          have n3_ := Aside0.mk (blk_below BK.out n1_.out)
          have n4_ := Aside0.mk (below_then HB.out HB.out.size n1_.out)
          clear BK6 HBW HX BK HB
          have BK6 := Aside0.mk (blk_drew n0_.out)
          have HX := Aside0.mk (builder_below n2_.out (below_drew (Below.refl _ _)))
          have BK := Aside0.mk (blk_drew n3_.out)
          have HB := Aside0.mk (below_drew1 n4_.out)
          clear n0_ n1_ n2_ n3_ n4_
          obtain ⟨xs, hxs⟩ : ∃ xs, xs = [p.f0, p.f1, p.f2, flagOf p.f3] := ⟨_, rfl⟩
          have HXS := Aside0.mk hxs
          have HWX : Aside0 (∀ n ∈ xs, (Lit.int .i64 n).wf = true) := ⟨by
            intro n hn
            rw [hxs] at hn
            simp only [List.mem_cons, List.not_mem_nil, or_false] at hn
            rcases hn with rfl | rfl | rfl | rfl
            · exact HWK.out.1
            · exact HWK.out.2.1
            · exact HWK.out.2.2.1
            · cases p.f3 <;> rfl⟩
          have hln : lineOf progWord xs = progLine p := by rw [hxs]; rfl
          have HLN := Aside0.mk hln
          have HSX : Aside0 ((wordsOf progWord xs).size + 1 ≤ 9223372036854775807) := ⟨by
            have h1 : (lineOf progWord xs).size = (wordsOf progWord xs).size + 1 := by rw [lineOf, size_append]; rfl
            have h2 := HS3.out
            rw [← hln] at h2
            omega⟩
          clear hxs hln
          refine start_ (n := 12) (S := fun w' => w'.cell? ⟨g8, 0, none⟩ = some (.int .i64 p.f0) ∧ w'.cell? ⟨g8, 1, none⟩ = some (.int .i64 p.f1) ∧ w'.cell? ⟨g8, 2, none⟩ = some (.int .i64 p.f2) ∧ w'.cell? ⟨g8, 3, none⟩ = some (.bool p.f3) ∧ w'.cell? ⟨g8, 4, none⟩ = some (.slice A3 p.f4.length c3)) (ds := []) #[false, false, false, false, false, false, false, false, false, false, false, false] (by kernel_rfl) rfl rfl ⟨(blk_cell BK6.out 0).trans rfl, (blk_cell BK6.out 1).trans rfl, (blk_cell BK6.out 2).trans rfl, (blk_cell BK6.out 3).trans rfl, (blk_cell BK6.out 4).trans rfl⟩ (fun hHeld => ?_)
          refine with_tabW p10tab p10bits (fun HT_ HW_ => ?_)
          generalize w5.drew = w6 at BK6 HX BK HB hHeld ⊢
          refine pure_ (i := 0) (N := some 39) (v := ?_) (a' := ?_) #[true, false, false, false, false, false, false, false, false, false, false, false] rfl rfl (any_of HT_.out (by kernel_rfl)) (fun _ _ _ h => h) (Or.inl ⟨by rfl, ?_⟩) ?_ ?_
          rotate_left
          · intro w'
            go_simp
            with_reducible rfl
          rotate_left
          · simp only [Act.put, List.setIfInBounds_toArray, List.set_cons_zero, List.set_cons_succ, i64_w, i32_w]
            rfl
          refine pure_ (i := 2) (N := some 41) (v := ?_) (a' := ?_) #[true, false, true, false, false, false, false, false, false, false, false, false] rfl rfl (any_of HT_.out (by kernel_rfl)) (fun _ _ _ h => h) (Or.inl ⟨by rfl, ?_⟩) ?_ ?_
          rotate_left
          · intro w'
            go_simp
            with_reducible rfl
          rotate_left
          · simp only [Act.put, List.setIfInBounds_toArray, List.set_cons_zero, List.set_cons_succ, i64_w, i32_w]
            rfl
          refine pure_ (i := 4) (N := some 43) (v := ?_) (a' := ?_) #[true, false, true, false, true, false, false, false, false, false, false, false] rfl rfl (any_of HT_.out (by kernel_rfl)) (fun _ _ _ h => h) (Or.inl ⟨by rfl, ?_⟩) ?_ ?_
          rotate_left
          · intro w'
            go_simp
            with_reducible rfl
          rotate_left
          · simp only [Act.put, List.setIfInBounds_toArray, List.set_cons_zero, List.set_cons_succ, i64_w, i32_w]
            rfl
          refine pure_ (i := 6) (N := some 45) (v := ?_) (a' := ?_) #[true, false, true, false, true, false, true, false, false, false, false, false] rfl rfl (any_of HT_.out (by kernel_rfl)) (fun _ _ _ h => h) (Or.inl ⟨by rfl, ?_⟩) ?_ ?_
          rotate_left
          · intro w'
            go_simp
            with_reducible rfl
          rotate_left
          · simp only [Act.put, List.setIfInBounds_toArray, List.set_cons_zero, List.set_cons_succ, i64_w, i32_w]
            rfl
          refine take_ (i := 1) (N := some 40) (v := ?_) (a' := ?_) #[true, true, true, false, true, false, true, false, false, false, false, false] rfl rfl (take_ofW HT_.out HW_.out (by kernel_rfl)) (fun _ _ _ h => h) (Or.inl ⟨by rfl, ?_⟩) hHeld ?_ ?_
          rotate_left
          · rintro w' ⟨s0, s1, s2, s3, s4⟩
            go_simp
            with_reducible rfl
          rotate_left
          · simp only [Act.put, List.setIfInBounds_toArray, List.set_cons_zero, List.set_cons_succ, i64_w, i32_w]
            rfl
          refine take_ (i := 3) (N := some 42) (v := ?_) (a' := ?_) #[true, true, true, true, true, false, true, false, false, false, false, false] rfl rfl (take_ofW HT_.out HW_.out (by kernel_rfl)) (fun _ _ _ h => h) (Or.inl ⟨by rfl, ?_⟩) hHeld ?_ ?_
          rotate_left
          · rintro w' ⟨s0, s1, s2, s3, s4⟩
            go_simp
            with_reducible rfl
          rotate_left
          · simp only [Act.put, List.setIfInBounds_toArray, List.set_cons_zero, List.set_cons_succ, i64_w, i32_w]
            rfl
          refine take_ (i := 5) (N := some 44) (v := ?_) (a' := ?_) #[true, true, true, true, true, true, true, false, false, false, false, false] rfl rfl (take_ofW HT_.out HW_.out (by kernel_rfl)) (fun _ _ _ h => h) (Or.inl ⟨by rfl, ?_⟩) hHeld ?_ ?_
          rotate_left
          · rintro w' ⟨s0, s1, s2, s3, s4⟩
            go_simp
            with_reducible rfl
          rotate_left
          · simp only [Act.put, List.setIfInBounds_toArray, List.set_cons_zero, List.set_cons_succ, i64_w, i32_w]
            rfl
          refine take_ (i := 7) (N := some 46) (v := ?_) (a' := ?_) #[true, true, true, true, true, true, true, true, false, false, false, false] rfl rfl (take_ofW HT_.out HW_.out (by kernel_rfl)) (fun _ _ _ h => h) (Or.inl ⟨by rfl, ?_⟩) hHeld ?_ ?_
          rotate_left
          · rintro w' ⟨s0, s1, s2, s3, s4⟩
            go_simp
            with_reducible rfl
          rotate_left
          · simp only [Act.put, List.setIfInBounds_toArray, List.set_cons_zero, List.set_cons_succ, i64_w, i32_w]
            rfl
          refine one_ (i := 8) (N := some 47) #[true, true, true, true, true, true, true, true, true, false, false, false] rfl rfl (one_of HT_.out (by kernel_rfl)) (by decide) (fun K hK => ?_)
          refine goes_ Tryd.func38 (by kernel_rfl) rfl #[.bool p.f3] (by rfl) rfl rfl (by (try simp only [List.map_toArray, List.map_cons, List.map_nil]); first | done | rfl) ?_
          refine (flag_any p.f3 _).mono ?_
          rintro e w' ⟨rfl, hw⟩
          rw [hw]
          clear hw
          refine ⟨_, rfl, ?_⟩
          refine hK.out _ _ ⟨(blk_cell BK6.out 0).trans rfl, (blk_cell BK6.out 1).trans rfl, (blk_cell BK6.out 2).trans rfl, (blk_cell BK6.out 3).trans rfl, (blk_cell BK6.out 4).trans rfl⟩ (fun hHeld => ?_)
          clear hK K
          refine norm_ (a' := ?_) ?_ ?_
          rotate_left
          · show Act.put _ (some 47) _ = _
            simp only [Act.put, List.setIfInBounds_toArray, List.set_cons_zero, List.set_cons_succ, i64_w, i32_w]
            rfl
          refine one_ (i := 9) (N := some 48) #[true, true, true, true, true, true, true, true, true, true, false, false] rfl rfl (one_of HT_.out (by kernel_rfl)) (by decide) (fun K hK => ?_)
          refine Kd.R_lit_step (Kd.int .i64) _ 3 ?hg (N := 48) ?hd (xs := ([p.f0, p.f1, p.f2, flagOf p.f3] : List Int)) (inner := [.int .i64 p.f0, .int .i64 p.f1, .int .i64 p.f2, .int .i64 (flagOf p.f3)]) (ok := fun _ => True) (okp := fun _ => True) ?hr ?hp (fun _ hk => hk) trivial (Below.refl _ _) (Nat.le_refl _) (by simp) ?_; (case hd => rfl); (case hg => rfl); (case hr => first | (go_simp; done) | (go_simp; rfl)); (case hp => exact (Reps.one (show Kd.M (Kd.int .i64) _ _ _ (p.f0) [.int .i64 (p.f0)] from rfl) (Reps.one (show Kd.M (Kd.int .i64) _ _ _ (p.f1) [.int .i64 (p.f1)] from rfl) (Reps.one (show Kd.M (Kd.int .i64) _ _ _ (p.f2) [.int .i64 (p.f2)] from rfl) (Reps.one (show Kd.M (Kd.int .i64) _ _ _ (flagOf p.f3) [.int .i64 (flagOf p.f3)] from rfl) (Reps.none _ _))))))
          intro v7 w7 ho7 hb hg_ hnew_
          clear hg_ hnew_
          have HO7 := Aside0.mk ho7
          have n2_ := Aside0.mk (builder_below HX.out hb)
          have n3_ := Aside0.mk (blk_below BK.out hb)
          have n4_ := Aside0.mk (below_then HB.out HB.out.size hb)
          have n0_ := Aside0.mk (blk_below BK6.out hb)
          clear HX BK HB BK6 hb
          have HX := n2_
          have BK := n3_
          have HB := n4_
          have BK6 := n0_
          clear n0_ n2_ n3_ n4_
          rw [← HXS.out] at ho7
          obtain ⟨A9, c9, rfl, hc9, hC9⟩ := Kd.R_reads ho7
          have HC9 := Aside0.mk hC9
          clear ho7 hC9 HO7
          refine hK.out _ _ ⟨(blk_cell BK6.out 0).trans rfl, (blk_cell BK6.out 1).trans rfl, (blk_cell BK6.out 2).trans rfl, (blk_cell BK6.out 3).trans rfl, (blk_cell BK6.out 4).trans rfl⟩ (fun hHeld => ?_)
          clear hK K
          refine norm_ (a' := ?_) ?_ ?_
          rotate_left
          · show Act.put _ (some 48) _ = _
            simp only [Act.put, List.setIfInBounds_toArray, List.set_cons_zero, List.set_cons_succ, i64_w, i32_w]
            rfl
          refine one_ (i := 10) (N := some 49) #[true, true, true, true, true, true, true, true, true, true, true, false] rfl rfl (one_of HT_.out (by kernel_rfl)) (by decide) (fun K hK => ?_)
          refine goes_ Tryd.func37 (by kernel_rfl) rfl #[.string progWord, .slice A9 xs.length c9] (by rfl) rfl rfl (by (try simp only [List.map_toArray, List.map_cons, List.map_nil]); first | done | rfl) ?_
          refine (line_any A9 c9 xs progWord _ HC9.out HWX.out (HL.out.below HB.out) HSX.out).mono ?_
          rintro e w10 ⟨rfl, hb⟩
          refine ⟨_, rfl, ?_⟩
          have n2_ := Aside0.mk (builder_below HX.out hb)
          have n3_ := Aside0.mk (blk_below BK.out hb)
          have n4_ := Aside0.mk (below_then HB.out HB.out.size hb)
          have n0_ := Aside0.mk (blk_below BK6.out hb)
          clear HX BK HB BK6 hb
          have HX := n2_
          have BK := n3_
          have HB := n4_
          have BK6 := n0_
          clear n0_ n2_ n3_ n4_
          refine hK.out _ _ ⟨(blk_cell BK6.out 0).trans rfl, (blk_cell BK6.out 1).trans rfl, (blk_cell BK6.out 2).trans rfl, (blk_cell BK6.out 3).trans rfl, (blk_cell BK6.out 4).trans rfl⟩ (fun hHeld => ?_)
          clear hK K
          refine norm_ (a' := ?_) ?_ ?_
          rotate_left
          · show Act.put _ (some 49) _ = _
            simp only [Act.put, List.setIfInBounds_toArray, List.set_cons_zero, List.set_cons_succ, i64_w, i32_w]
            rfl
          refine one_ (i := 11) (N := some 50) #[true, true, true, true, true, true, true, true, true, true, true, true] rfl rfl (one_of HT_.out (by kernel_rfl)) (by decide) (fun K hK => ?_)
          refine goes_ Tryd.func36 (by kernel_rfl) rfl #[.pointer (some ⟨bb, 0, none⟩), .string (lineOf progWord xs)] (by rfl) rfl rfl (by (try simp only [List.map_toArray, List.map_cons, List.map_nil]); first | done | rfl) ?_
          refine (write_on bb (progsText T0 (ps.take k)) (lineOf progWord xs) _ HX.out (by rw [HLN.out]; have := HS3.out; omega)).mono ?_
          rintro e w11 ⟨rfl, hx, hb, hk⟩
          refine ⟨_, rfl, ?_⟩
          have n2_ := Aside0.mk hx
          have n3_ := Aside0.mk (hk _ _ _ (by decide) (by decide) BK.out)
          have n4_ := Aside0.mk (HB.out.trans (hb.mono GE.out))
          have n0_ := Aside0.mk (hk _ _ _ (by decide) (by decide) BK6.out)
          clear HX BK HB BK6 hb hx hk
          have HX := n2_
          have BK := n3_
          have HB := n4_
          have BK6 := n0_
          clear n0_ n2_ n3_ n4_
          refine hK.out _ _ ⟨(blk_cell BK6.out 0).trans rfl, (blk_cell BK6.out 1).trans rfl, (blk_cell BK6.out 2).trans rfl, (blk_cell BK6.out 3).trans rfl, (blk_cell BK6.out 4).trans rfl⟩ (fun hHeld => ?_)
          clear hK K
          refine norm_ (a' := ?_) ?_ ?_
          rotate_left
          · show Act.put _ (some 50) _ = _
            simp only [Act.put, List.setIfInBounds_toArray, List.set_cons_zero, List.set_cons_succ, i64_w, i32_w]
            rfl
          refine done_ (done_of HT_.out (by kernel_rfl)) ?_
          rw [HLN.out] at HX
          have hz4 : w11.cell? ⟨g8, 4, none⟩ = some (.slice A3 p.f4.length c3) := (blk_cell BK6.out 4).trans rfl
          go_wp2
          clear hz4 BK6
          go_loopw [54] (fun i wr3 => ∃ j : Nat, i = .int .i64 j ∧ j ≤ p.f4.length ∧ Aside0 (cleanCode (p.f4.take j) = true) ∧ Aside0 (Lib.IsBuilder 69 5 bb bb (Lib.strCells (codeText (progsText T0 (ps.take k) ++ progLine p) (p.f4.take j))) wr3) ∧ Aside0 (wr3.heap[gb]? = some (.cells #[.slice (some ad) ps.length c0, .slice A1 ts.length c1] 36 (0, 0))) ∧ Aside0 (Below w.heap.size w wr3)) (fun i _ => p.f4.length - (intOf i).toNat)
          case atStart => exact ⟨0, rfl, by omega, ⟨rfl⟩, HX, BK, HB⟩
          case round =>
            clear HX BK HB
            obtain ⟨j, rfl, hj, HCJ, HX, BK, HB⟩ := hrel
            by_cases hlt3 : j < p.f4.length
            · obtain ⟨ad3, A4, c4, e, x0, x1, x2, x3, hl, hi⟩ := at_T28 HI.out (j : Int) (by omega) (by omega)
              cases e
              have hrd : rd_T28 p.f4 (j : Int) = p.f4[j] := by simp [rd_T28, hlt3]
              rw [hrd] at x0 x1 x2 x3 hl hi
              rw [Int.toNat_natCast] at x0 x1 x2 x3
              replace x0 := pw_cell_below HB.out x0
              replace x1 := pw_cell_below HB.out x1
              replace x2 := pw_cell_below HB.out x2
              replace x3 := pw_cell_below HB.out x3
              have HTX3 : Aside0 (codeText (progsText T0 (ps.take k) ++ progLine p) (p.f4.take (j + 1)) = codeText (progsText T0 (ps.take k) ++ progLine p) (p.f4.take j) ++ insLine p.f4[j].f0 p.f4[j].f1 p.f4[j].f2 p.f4[j].f3) := ⟨fold_take _ p.f4 _ j hlt3⟩
              have HC3 : Aside0 (cleanCode (p.f4.take (j + 1)) = (cleanCode (p.f4.take j) && cleanIns p.f4[j].f0 p.f4[j].f1 p.f4[j].f2 p.f4[j].f3)) := ⟨by rw [cleanCode, cleanCode, List.take_succ_eq_append_getElem hlt3, List.all_append, List.all_cons, List.all_nil, Bool.and_true]⟩
              have HWI := Aside0.mk (HWK.out.2.2.2 p.f4[j] (List.getElem_mem hlt3))
              have HME3 := Aside0.mk (List.getElem_mem hlt3)
              generalize p.f4[j] = x at x0 x1 x2 x3 hl hi HTX3 HWI HME3 HC3
              have HI3 := Aside0.mk hi
              clear hi hrd
              have hsz2 : (codeText (progsText T0 (ps.take k) ++ progLine p) (p.f4.take j)).size + (insLine x.f0 x.f1 x.f2 x.f3).size + 1 ≤ 140737488355328 := by
                have h1 := fold_le (fun acc (x : S28) => acc ++ insLine x.f0 x.f1 x.f2 x.f3) (fun _ _ => grow_app _ _) p.f4 (progsText T0 (ps.take k) ++ progLine p) (j + 1)
                have h3 := HS2.out
                have h4 := congrArg ByteArray.size HTX3.out
                rw [size_append] at h4
                simp only [progText, codeText] at h1 h3 h4 ⊢
                omega
              have HS4 := Aside0.mk hsz2
              clear hsz2
              by_cases hcl : cleanIns x.f0 x.f1 x.f2 x.f3 = true
              · have HCI := Aside0.mk hcl
                clear hcl
                go_wp2_with (first
                  | ((with_reducible refine gate_dst (N := 10) rfl ?_); refine box_event ?hg (N := 10) ?hd (cs := #[.int .i64 0, .int .i64 0, .int .i64 0, .slice none 0 0]) (t := 28) ?hr ?_; (case hd => rfl); (case hg => rfl); (case hr => first | (go_simp; done) | (go_simp; rfl)); intro g10 hg w4 hbox hb; have BK6 := Aside0.mk hbox; have HBW := Aside0.mk hb; have GE6 := Aside0.mk (Nat.le_of_eq hg.symm); clear hg hbox hb)
                  | (refine wpList_store_row rfl 28 (.tmp 10) (.tmp 57) rfl g10 #[.int .i64 x.f0, .int .i64 x.f1, .int .i64 x.f2, .slice A4 x.f3.length c4] rfl rfl 28 _ BK6.out (by kernel_rfl) rfl (by kernel_rfl) ?_; have n0_ : Aside0 ((w4.setRow g10 #[.int .i64 x.f0, .int .i64 x.f1, .int .i64 x.f2, .slice A4 x.f3.length c4]).heap[g10]? = some (.cells #[.int .i64 x.f0, .int .i64 x.f1, .int .i64 x.f2, .slice A4 x.f3.length c4] 28 (0, 0))) := ⟨setRow_heap _ _ _ _ _ _ BK6.out⟩; have n1_ := Aside0.mk (below_setRow HBW.out GE6.out #[.int .i64 x.f0, .int .i64 x.f1, .int .i64 x.f2, .slice A4 x.f3.length c4]); generalize w4.setRow g10 #[.int .i64 x.f0, .int .i64 x.f1, .int .i64 x.f2, .slice A4 x.f3.length c4] = w5 at n0_ n1_ ⊢; have n2_ := Aside0.mk (builder_below HX.out n1_.out); have n3_ := Aside0.mk (blk_below BK.out n1_.out); have n4_ := Aside0.mk (below_then HB.out HB.out.size n1_.out); clear BK6 HBW HX BK HB; have HX := n2_; have BK := n3_; have HB := n4_; have y0 : w5.cell? ⟨g10, 0, none⟩ = some (.int .i64 x.f0) := (blk_cell n0_.out 0).trans rfl; have y1 : w5.cell? ⟨g10, 1, none⟩ = some (.int .i64 x.f1) := (blk_cell n0_.out 1).trans rfl; have y2 : w5.cell? ⟨g10, 2, none⟩ = some (.int .i64 x.f2) := (blk_cell n0_.out 2).trans rfl; have y3 : w5.cell? ⟨g10, 3, none⟩ = some (.slice A4 x.f3.length c4) := (blk_cell n0_.out 3).trans rfl; clear n0_ n1_ n2_ n3_ n4_)
                  | (go_at_call 39; refine (ins_good x.f0 x.f1 x.f2 A4 c4 x.f3 _ HCI.out (Kd.C_below HI3.out HB.out) HWI.out.1 HWI.out.2.1 HWI.out.2.2.1 (HL.out.below HB.out) HWI.out.2.2.2 (by have := HS4.out; omega)).mono ?_; rintro e w8 ⟨rfl, hb⟩; have n2_ := Aside0.mk (builder_below HX.out hb); have n3_ := Aside0.mk (blk_below BK.out hb); have n4_ := Aside0.mk (below_then HB.out HB.out.size hb); clear HX BK HB hb; have HX := n2_; have BK := n3_; have HB := n4_; clear n2_ n3_ n4_)
                  | (go_at_call 36; refine (write_on bb (codeText (progsText T0 (ps.take k) ++ progLine p) (p.f4.take j)) (insLine x.f0 x.f1 x.f2 x.f3) _ HX.out (by have := HS4.out; omega)).mono ?_; rintro e w11 ⟨rfl, hx, hb, hk⟩; have n2_ := Aside0.mk hx; have n3_ := Aside0.mk (hk _ _ _ (by decide) (by decide) BK.out); have n4_ := Aside0.mk (HB.out.trans (hb.mono GE.out)); clear HX BK HB hb hx hk; have HX := n2_; have BK := n3_; have HB := n4_; clear n2_ n3_ n4_))
                go_roundw
                case rel => exact ⟨j + 1, by go_num, by omega, ⟨by rw [HC3.out, HCJ.out, HCI.out]; rfl⟩, by rw [HTX3.out]; exact HX, BK, HB⟩
                case measure => simp [intOf]; omega
              · have HCI := Aside0.mk (Bool.eq_false_iff.2 hcl)
                clear hcl
                go_wp2_with (first
                  | ((with_reducible refine gate_dst (N := 10) rfl ?_); refine box_event ?hg (N := 10) ?hd (cs := #[.int .i64 0, .int .i64 0, .int .i64 0, .slice none 0 0]) (t := 28) ?hr ?_; (case hd => rfl); (case hg => rfl); (case hr => first | (go_simp; done) | (go_simp; rfl)); intro g10 hg w4 hbox hb; have BK6 := Aside0.mk hbox; have HBW := Aside0.mk hb; have GE6 := Aside0.mk (Nat.le_of_eq hg.symm); clear hg hbox hb)
                  | (refine wpList_store_row rfl 28 (.tmp 10) (.tmp 57) rfl g10 #[.int .i64 x.f0, .int .i64 x.f1, .int .i64 x.f2, .slice A4 x.f3.length c4] rfl rfl 28 _ BK6.out (by kernel_rfl) rfl (by kernel_rfl) ?_; have n0_ : Aside0 ((w4.setRow g10 #[.int .i64 x.f0, .int .i64 x.f1, .int .i64 x.f2, .slice A4 x.f3.length c4]).heap[g10]? = some (.cells #[.int .i64 x.f0, .int .i64 x.f1, .int .i64 x.f2, .slice A4 x.f3.length c4] 28 (0, 0))) := ⟨setRow_heap _ _ _ _ _ _ BK6.out⟩; have n1_ := Aside0.mk (below_setRow HBW.out GE6.out #[.int .i64 x.f0, .int .i64 x.f1, .int .i64 x.f2, .slice A4 x.f3.length c4]); generalize w4.setRow g10 #[.int .i64 x.f0, .int .i64 x.f1, .int .i64 x.f2, .slice A4 x.f3.length c4] = w5 at n0_ n1_ ⊢; have n2_ := Aside0.mk (builder_below HX.out n1_.out); have n3_ := Aside0.mk (blk_below BK.out n1_.out); have n4_ := Aside0.mk (below_then HB.out HB.out.size n1_.out); clear BK6 HBW HX BK HB; have HX := n2_; have BK := n3_; have HB := n4_; have y0 : w5.cell? ⟨g10, 0, none⟩ = some (.int .i64 x.f0) := (blk_cell n0_.out 0).trans rfl; have y1 : w5.cell? ⟨g10, 1, none⟩ = some (.int .i64 x.f1) := (blk_cell n0_.out 1).trans rfl; have y2 : w5.cell? ⟨g10, 2, none⟩ = some (.int .i64 x.f2) := (blk_cell n0_.out 2).trans rfl; have y3 : w5.cell? ⟨g10, 3, none⟩ = some (.slice A4 x.f3.length c4) := (blk_cell n0_.out 3).trans rfl; clear n0_ n1_ n2_ n3_ n4_)
                  | (go_at_call 39; refine (ins_bad x.f0 x.f1 x.f2 A4 c4 x.f3 _ HCI.out (Kd.C_below HI3.out HB.out) HWI.out.1 HWI.out.2.1 HWI.out.2.2.1 (HL.out.below HB.out) HWI.out.2.2.2 (by have := HS4.out; omega)).mono ?_; rintro e w8 ⟨rfl, hb⟩; have n4_ := Aside0.mk (below_then HB.out HB.out.size hb); clear HX BK HB hb))
                go_ret2
                refine ⟨?_, n4_.out⟩
                have hbad : cleanProgs ps = false := by
                  rw [cleanProgs, List.all_eq_false]
                  refine ⟨p, HMEM.out, ?_⟩
                  have : cleanCode p.f4 = false := by
                    rw [cleanCode, List.all_eq_false]
                    exact ⟨x, HME3.out, by rw [HCI.out]; decide⟩
                  rw [this]; decide
                rw [printOf, hbad, if_neg (by decide)]
                rfl
            · obtain rfl : j = p.f4.length := by omega
              rw [List.take_length] at HX HCJ
              go_wp2
              go_roundw
              case rel => exact ⟨k + 1, by go_num, by omega, ⟨by rw [HC1.out, HCL.out, HCJ.out]; rfl⟩, by rw [HTX.out]; exact HX, BK, HB⟩
              case measure => simp [intOf]; omega
        · obtain rfl : k = ps.length := by omega
          rw [List.take_length] at HX HCL
          go_wp2_with (go_at_call 40; refine (string_on bb _ _ HX.out).mono ?_; rintro e w12 ⟨rfl, hb⟩; have HBZ := Aside0.mk (HB.out.trans (hb.mono GE.out)); clear hb)
          go_ret2
          refine ⟨?_, HBZ.out⟩
          rw [printOf, HCL.out, if_pos rfl, fullText, ← HT0.out]
          rfl

end Go.Proofs.YtfkfgjmhcfagkaaDoor.Given
