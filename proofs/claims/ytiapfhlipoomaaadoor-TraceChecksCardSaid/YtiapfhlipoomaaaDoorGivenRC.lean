/- squintref18.Check at any event. -/
import Derived.Test.YtiapfhlipoomaaaDoorGivenRA
import Derived.Test.YtiapfhlipoomaaaDoorGivenBF
import Derived.Test.YtiapfhlipoomaaaDoorPrint4
import Derived.Laws.CopyOwn
namespace Go.Proofs.YtiapfhlipoomaaaDoor.Given
open Go.RowKit Go.Proofs.YtiapfhlipoomaaaDoorW.PrintWords Go.Proofs.YtiapfhlipoomaaaDoorW.PrintLast Go.Proofs.YtiapfhlipoomaaaDoorW.PrintMore Go.Proofs.YtiapfhlipoomaaaDoor.Print
set_option linter.unusedVariables false
set_option linter.unusedSimpArgs false

theorem field_at (g : Nat) (c : Int) (o : Nat) (w : World) (x : S24) (lv : Value) (hb : w.heap[g]? = some (.cells (evC x lv) 24 (0, 0))) (ho : letO c = o) :
    Calls Tryd.prog 28 #[.pointer (some ⟨g, 0, none⟩), .int .u8 c] w fun e w' => e = .returned (.pointer (some ⟨g, o, none⟩)) ∧ w' = w := by
  subst ho
  exact field_any g c w x lv hb
theorem word_says (k : Nat) (h1 : 1 ≤ k) (h2 : k ≤ 11) : squintref18_word.f k = some (wordB k) := by
  obtain rfl | rfl | rfl | rfl | rfl | rfl | rfl | rfl | rfl | rfl | rfl : k = 1 ∨ k = 2 ∨ k = 3 ∨ k = 4 ∨ k = 5 ∨ k = 6 ∨ k = 7 ∨ k = 8 ∨ k = 9 ∨ k = 10 ∨ k = 11 := by omega
  all_goals kernel_rfl
theorem word_none (n : Int) (h : n < 1 ∨ 11 < n) : squintref18_word.f n = some ⟨#[]⟩ := by
  unfold squintref18_word.f
  simp only [Option.bind_some, List.length_cons, List.length_nil]
  by_cases h1 : n < 1
  · rw [if_pos h1]
  · rw [if_neg h1, if_pos (by omega)]
/-- A kind's letters. -/
def shapeB : Nat → ByteArray
  | 1 => ⟨#[80, 81]⟩
  | 2 => ⟨#[80, 73, 81, 74, 67]⟩
  | 3 => ⟨#[81, 74, 78]⟩
  | 4 => ⟨#[80, 73, 78]⟩
  | 5 => ⟨#[80]⟩
  | 6 => ⟨#[80, 84]⟩
  | 7 => ⟨#[]⟩
  | 8 => ⟨#[]⟩
  | 9 => ⟨#[76]⟩
  | 10 => ⟨#[80]⟩
  | 11 => ⟨#[80, 83]⟩
  | _ => ⟨#[]⟩
theorem shape_says (k : Nat) (h1 : 1 ≤ k) (h2 : k ≤ 11) : squintref18_shape.f k = some (shapeB k) := by
  obtain rfl | rfl | rfl | rfl | rfl | rfl | rfl | rfl | rfl | rfl | rfl : k = 1 ∨ k = 2 ∨ k = 3 ∨ k = 4 ∨ k = 5 ∨ k = 6 ∨ k = 7 ∨ k = 8 ∨ k = 9 ∨ k = 10 ∨ k = 11 := by omega
  all_goals kernel_rfl
theorem shape_size (k : Nat) : (shapeB k).size ≤ 5 := by unfold shapeB; split <;> decide
set_option maxRecDepth 100000 in
theorem ref_none (x : S24) (A : Option Addr) (cap : Nat) (w : World) (hk : x.f0 < 1 ∨ 11 < x.f0) :
    Calls Tryd.prog 11 #[evV x A cap] w fun e w' => e = .returned (.int .i64 180) ∧ Below w.heap.size w w' := by
  have hu24 := Tryd.underlying24
  have HB := Aside0.mk (Below.refl w.heap.size w)
  have HW := Aside0.mk (word_none x.f0 hk)
  clear hk
  go_enter Tryd.func11, Tryd.ntmps11
  go_wp2_with (first
    | ((with_reducible refine gate_dst (N := 1) rfl ?_); refine box_event ?hg (N := 1) ?hd (cs := evC x (.slice A x.f7.length cap)) (t := 24) ?hr ?_; (case hd => rfl); (case hg => rfl); (case hr => first | (go_simp; done) | (go_simp; rfl)); intro g1 hg w1 hbox hb; have HB1 := Aside0.mk (below_step HB.out hb); clear HB; have x0 : w1.cell? ⟨g1, 0, none⟩ = some (.int .i64 x.f0) := (blk_cell hbox 0).trans rfl; clear hbox hb hg)
    | (go_at_call 26; refine (squintref18_word.calls x.f0 _ _ HW.out).mono ?_; rintro e w2 ⟨rfl, hb⟩; have HB := Aside0.mk (below_step HB1.out hb); clear hb x0))
  go_returns
  exact ⟨rfl, HB.out⟩
/-! ### the letters -/
theorem letO_le (c : Int) : 1 ≤ letO c ∧ letO c ≤ 6 := by
  unfold letO
  split <;> omega
/-- An event without a letter's number. -/
def clrX (x : S24) (c : Int) : S24 := if c = 76 then x else setK x 0 (letO c)
def clrL (x : S24) (l : List UInt8) : S24 := l.foldl (fun y b => clrX y b.toNat) x
def okC (x : S24) (c : Int) : Bool :=
  if c = 76 then true else if c = 78 then true
  else if c = 84 then decide (1 ≤ getK x (letO c) ∧ getK x (letO c) ≤ 5)
  else if c = 83 then decide (1 ≤ getK x (letO c) ∧ getK x (letO c) ≤ 6)
  else decide (0 ≤ getK x (letO c))
def okL (x : S24) (l : List UInt8) : Bool := l.all fun b => okC x b.toNat
def isL (l : List UInt8) : Bool := l.any fun b => decide (b.toNat = 76)
theorem okL_snoc (x : S24) (l : List UInt8) (b : UInt8) : okL x (l ++ [b]) = (okL x l && okC x b.toNat) := by simp [okL]
theorem isL_snoc (l : List UInt8) (b : UInt8) : isL (l ++ [b]) = (isL l || decide (b.toNat = 76)) := by simp [isL]
theorem clrL_snoc (x : S24) (l : List UInt8) (b : UInt8) : clrL x (l ++ [b]) = clrX (clrL x l) b.toNat := by simp [clrL]
/-- What Check says, by the letters. -/
def refK (k : Nat) (x : S24) : Int :=
  let l := (shapeB k).data.toList
  if okL x l = false then 180
  else if (clrL x l).f1 ≠ 0 ∨ (clrL x l).f2 ≠ 0 ∨ (clrL x l).f3 ≠ 0 ∨ (clrL x l).f4 ≠ 0 ∨ (clrL x l).f5 ≠ 0 ∨ (clrL x l).f6 ≠ 0 ∨ (isL l = false ∧ x.f7 ≠ []) then 180
  else if risesB x.f7 = true then 0 else 180
/-- The step of the letters. -/
theorem clr_cells (y : S24) (c : Int) (o : Nat) (lv : Value) (hc : c ≠ 76) (ho : letO c = o) : (evC y lv).setIfInBounds o (.int .i64 0) = evC (clrX y c) lv := by
  subst ho
  obtain ⟨h1, h2⟩ := letO_le c
  rw [setK_cells y lv 0 _ h1 h2]
  unfold clrX
  rw [if_neg hc]
theorem clr_f7 (y : S24) (c : Int) : (clrX y c).f7 = y.f7 := by
  unfold clrX
  split
  · rfl
  · exact setK_f7 _ _ _
/-- The number ahead of a place. -/
def preL (l : List Int) : Nat → Int
  | 0 => -1
  | m + 1 => l.getD m 0
theorem take_byte (s : ByteArray) (j : Nat) (h : j < s.size) : s.data.toList.take (j + 1) = s.data.toList.take j ++ [s[j]] := by
  rw [List.take_succ_eq_append_getElem (by simpa using h)]; rfl
theorem okL_bad {x : S24} {s : ByteArray} {j : Nat} {h : j < s.size} (ht : s.data.toList.take (j + 1) = s.data.toList.take j ++ [s[j]]) (hb : okC x (s[j].toNat : Int) = false) : okL x s.data.toList = false := by
  have e := List.take_append_drop (j + 1) s.data.toList
  rw [← e, ht]
  simp [okL, hb]
set_option maxRecDepth 100000 in
set_option maxHeartbeats 4000000 in
theorem ref_kind (x : S24) (k : Nat) (h1 : 1 ≤ k) (h2 : k ≤ 11) (A : Option Addr) (cap : Nat) (w : World) (hk : x.f0 = k) (hr : Kd.C (Kd.int .i64) w A x.f7.length x.f7) (hc : x.f7.length ≤ cap) :
    Calls Tryd.prog 11 #[evV x A cap] w fun e w' => e = .returned (.int .i64 (refK k x)) ∧ Below w.heap.size w w' := by
  have hu24 := Tryd.underlying24
  have HB := Aside0.mk (Below.refl w.heap.size w)
  have HK := Aside0.mk hk
  have HR := Aside0.mk hr
  have HC := Aside0.mk hc
  have HWD := Aside0.mk (word_says k h1 h2)
  have HSH := Aside0.mk (shape_says k h1 h2)
  have hne : (wordB k).toList.isEmpty = false := by
    have key : ∀ k : Fin 12, 1 ≤ k.val → (wordB k.val).toList.isEmpty = false := by decide +kernel
    exact key ⟨k, by omega⟩ h1
  have hsz := shape_size k
  obtain ⟨wd, hwd⟩ : ∃ wd, wd = wordB k := ⟨_, rfl⟩
  obtain ⟨s, hs⟩ : ∃ s, s = shapeB k := ⟨_, rfl⟩
  have HREF : Aside0 (refK k x = if okL x s.data.toList = false then 180 else if (clrL x s.data.toList).f1 ≠ 0 ∨ (clrL x s.data.toList).f2 ≠ 0 ∨ (clrL x s.data.toList).f3 ≠ 0 ∨ (clrL x s.data.toList).f4 ≠ 0 ∨ (clrL x s.data.toList).f5 ≠ 0 ∨ (clrL x s.data.toList).f6 ≠ 0 ∨ (isL s.data.toList = false ∧ x.f7 ≠ []) then 180 else if risesB x.f7 = true then 0 else 180) := ⟨by rw [hs]; rfl⟩
  rw [← hwd] at hne HWD
  rw [← hs] at HSH hsz
  clear hk hr hc hwd hs h1 h2
  generalize refK k x = res at HREF ⊢
  go_enter Tryd.func11, Tryd.ntmps11
  go_wp2_with (first
    | ((with_reducible refine gate_dst (N := 1) rfl ?_); refine box_event ?hg (N := 1) ?hd (cs := evC x (.slice A x.f7.length cap)) (t := 24) ?hr ?_; (case hd => rfl); (case hg => rfl); (case hr => first | (go_simp; done) | (go_simp; rfl)); intro g1 hg w1 hbox hb; have HB1 := Aside0.mk (below_step HB.out hb); have G1 := Aside0.mk (show w.heap.size ≤ g1 by rw [hg]; exact HB.out.size); clear HB; have HB := HB1; clear HB1; have x0 : w1.cell? ⟨g1, 0, none⟩ = some (.int .i64 k) := (blk_cell hbox 0).trans (congrArg (fun n => some (Value.int .i64 n)) HK.out); have BX := Aside0.mk hbox; clear hbox hb hg)
    | (go_at_call 26; refine (squintref18_word.calls (k : Int) _ _ HWD.out).mono ?_; rintro e w2 ⟨rfl, hb⟩; have n0_ := Aside0.mk (below_step HB.out hb); clear HB; have HB := n0_; clear n0_; have n0_ := Aside0.mk (blk_below BX.out hb); clear BX; have BX := n0_; clear n0_ hb x0; have x0 : w2.cell? ⟨g1, 0, none⟩ = some (.int .i64 k) := (blk_cell BX.out 0).trans (congrArg (fun n => some (Value.int .i64 n)) HK.out))
    | (go_at_call 27; refine (squintref18_shape.calls (k : Int) _ _ HSH.out).mono ?_; rintro e w3 ⟨rfl, hb⟩; have n0_ := Aside0.mk (below_step HB.out hb); clear HB; have HB := n0_; clear n0_; have n0_ := Aside0.mk (blk_below BX.out hb); clear BX; have BX := n0_; clear n0_ hb x0; have x0 : w3.cell? ⟨g1, 0, none⟩ = some (.int .i64 x.f0) := (blk_cell BX.out 0).trans rfl; have x1 : w3.cell? ⟨g1, 1, none⟩ = some (.int .i64 x.f1) := (blk_cell BX.out 1).trans rfl; have x2 : w3.cell? ⟨g1, 2, none⟩ = some (.int .i64 x.f2) := (blk_cell BX.out 2).trans rfl; have x3 : w3.cell? ⟨g1, 3, none⟩ = some (.int .i64 x.f3) := (blk_cell BX.out 3).trans rfl; have x4 : w3.cell? ⟨g1, 4, none⟩ = some (.int .i64 x.f4) := (blk_cell BX.out 4).trans rfl; have x5 : w3.cell? ⟨g1, 5, none⟩ = some (.int .i64 x.f5) := (blk_cell BX.out 5).trans rfl; have x6 : w3.cell? ⟨g1, 6, none⟩ = some (.int .i64 x.f6) := (blk_cell BX.out 6).trans rfl; have x7 : w3.cell? ⟨g1, 7, none⟩ = some (.slice A x.f7.length cap) := (blk_cell BX.out 7).trans rfl)
    | ((with_reducible refine gate_dst (N := 4) rfl ?_); refine box_event ?hg (N := 4) ?hd (cs := evC ⟨0, 0, 0, 0, 0, 0, 0, []⟩ (.slice none 0 0)) (t := 24) ?hr ?_; (case hd => rfl); (case hg => rfl); (case hr => first | (go_simp; done) | (go_simp; rfl)); intro g4 hg w4 hbox hb; have N4 := Aside0.mk (show g1 ≠ g4 by have := blk_lt BX.out; omega); have n0_ := Aside0.mk (below_step HB.out hb); have G4 := Aside0.mk (show w.heap.size ≤ g4 by rw [hg]; exact HB.out.size); clear HB; have HB := n0_; clear n0_; have n0_ := Aside0.mk (blk_below BX.out hb); clear BX; have BX := n0_; have BY := Aside0.mk hbox; clear n0_ hb hbox hg x0 x1 x2 x3 x4 x5 x6 x7)
    | (refine wpList_store_row rfl 24 (.tmp 4) (.tmp 18) rfl g4 (evC x (.slice A x.f7.length cap)) rfl rfl 24 _ BY.out (by kernel_rfl) rfl (by kernel_rfl) ?_; have n0_ : Aside0 ((w4.setRow g4 (evC x (.slice A x.f7.length cap))).heap[g4]? = some (.cells (evC x (.slice A x.f7.length cap)) 24 (0, 0))) := ⟨setRow_heap _ _ _ _ _ _ BY.out⟩; have n2_ : Aside0 ((w4.setRow g4 (evC x (.slice A x.f7.length cap))).heap[g1]? = some (.cells (evC x (.slice A x.f7.length cap)) 24 (0, 0))) := ⟨(setRow_other _ _ _ _ N4.out).trans BX.out⟩; have n1_ := Aside0.mk (below_setRow HB.out G4.out (evC x (.slice A x.f7.length cap))); generalize w4.setRow g4 (evC x (.slice A x.f7.length cap)) = w5 at n0_ n1_ n2_ ⊢; clear BX BY HB; have BX := n2_; have BY := n0_; have HB := n1_; clear n0_ n1_ n2_))
  clear hne HWD HSH
  go_loopw [5, 6] (fun v5 v6 wr => ∃ j : Nat, v6 = .int .i64 j ∧ j ≤ s.size ∧ v5 = .bool (isL (s.data.toList.take j)) ∧ Aside0 (okL x (s.data.toList.take j) = true) ∧ Aside0 (wr.heap[g1]? = some (.cells (evC x (.slice A x.f7.length cap)) 24 (0, 0))) ∧ Aside0 (wr.heap[g4]? = some (.cells (evC (clrL x (s.data.toList.take j)) (.slice A x.f7.length cap)) 24 (0, 0))) ∧ Aside0 (Below w.heap.size w wr)) (fun _ v6 _ => s.size - (intOf v6).toNat)
  case atStart => exact ⟨0, rfl, by omega, rfl, ⟨rfl⟩, BX, BY, HB⟩
  case round =>
    clear BX BY HB
    obtain ⟨j, rfl, hj, rfl, HOKJ, BX, BY, HB⟩ := hrel
    obtain ⟨wo, rfl⟩ : ∃ wo : World, wo = wr := ⟨_, rfl⟩
    obtain ⟨y, hy⟩ : ∃ y, y = clrL x (s.data.toList.take j) := ⟨_, rfl⟩
    have HY := Aside0.mk hy
    rw [← hy] at BY
    clear hy
    by_cases hlt : j < s.size
    · have HTK : Aside0 (s.data.toList.take (j + 1) = s.data.toList.take j ++ [s[j]]) := ⟨take_byte s j hlt⟩
      have HCL : Aside0 (clrX y (s[j].toNat : Int) = clrL x (s.data.toList.take (j + 1))) := ⟨by rw [HTK.out, clrL_snoc, HY.out]⟩
      obtain ⟨o, ho⟩ : ∃ o, letO (s[j].toNat : Int) = o := ⟨_, rfl⟩
      have hob : 1 ≤ o ∧ o ≤ 6 := by rw [← ho]; exact letO_le _
      have HO := Aside0.mk ho
      have q : wo.cell? ⟨g1, o, none⟩ = some (.int .i64 (getK x o)) := (blk_cell BX.out o).trans (ev_get x _ o hob.1 hob.2)
      have hz : wo.frozen? ⟨g4, o, none⟩ = false := blk_frozen BY.out o
      have yq : wo.cell? ⟨g4, o, none⟩ = some (.int .i64 (getK y o)) := (blk_cell BY.out o).trans (ev_get y _ o hob.1 hob.2)
      have HOB := Aside0.mk hob
      obtain ⟨n, hn⟩ : ∃ n, n = getK x o := ⟨_, rfl⟩
      have HN := Aside0.mk hn
      rw [← hn] at q
      clear ho hn hob
      by_cases e76 : s[j].toNat = 76
      · have HIS : Aside0 (isL (s.data.toList.take (j + 1)) = true) := ⟨by rw [HTK.out, isL_snoc, decide_eq_true e76, Bool.or_true]⟩
        have HOKS : Aside0 (okL x (s.data.toList.take (j + 1)) = true) := ⟨by rw [HTK.out, okL_snoc, HOKJ.out, Bool.true_and]; unfold okC; rw [if_pos (by omega)]⟩
        have HCY : Aside0 (clrL x (s.data.toList.take (j + 1)) = y) := ⟨by rw [← HCL.out]; unfold clrX; rw [if_pos (by omega)]⟩
        have e : ((s[j].toNat : Int) == 76) = true := by simp; omega
        clear e76
        go_wp2_with (fail)
        go_roundw
        case rel => exact ⟨j + 1, by go_num, by omega, by rw [HIS.out], HOKS, BX, ⟨by rw [HCY.out]; exact BY.out⟩, HB⟩
        case measure => simp [intOf]; omega
      have HNE : Aside0 ((s[j].toNat : Int) ≠ 76) := ⟨by omega⟩
      have HIS : Aside0 (isL (s.data.toList.take (j + 1)) = isL (s.data.toList.take j)) := ⟨by rw [HTK.out, isL_snoc, decide_eq_false e76, Bool.or_false]⟩
      by_cases e78 : s[j].toNat = 78
      · have HOKS : Aside0 (okL x (s.data.toList.take (j + 1)) = true) := ⟨by rw [HTK.out, okL_snoc, HOKJ.out, Bool.true_and]; unfold okC; rw [if_neg (by omega), if_pos (by omega)]⟩
        have HO2 : Aside0 (letO 78 = o) := ⟨by have := HO.out; rw [e78] at this; exact this⟩
        have e76 : ((s[j].toNat : Int) == 76) = false := by simp; omega
        have e78 : ((s[j].toNat : Int) == 78) = true := by simp; omega
        have e84 : ((s[j].toNat : Int) == 84) = false := by simp; omega
        have e83 : ((s[j].toNat : Int) == 83) = false := by simp; omega
        have M1 := Aside0.mk True.intro
        go_wp2_with (first
          | (go_at_call 28; clear M1; refine (field_at g1 78 o _ x (.slice A x.f7.length cap) BX.out HO2.out).mono ?_; rintro e w6 ⟨rfl, hw⟩; rw [hw]; clear hw w6)
          | (go_at_call 28; refine (field_at g4 78 o _ y (.slice A x.f7.length cap) BY.out HO2.out).mono ?_; rintro e w6 ⟨rfl, hw⟩; rw [hw]; clear hw w6))
        go_roundw
        case rel => exact ⟨j + 1, by go_num, by omega, by rw [HIS.out], HOKS, ⟨(Below.heap_setCell wo _ _ g1 N4.out).trans BX.out⟩, ⟨(blk_set BY.out _ _).trans (by rw [clr_cells y _ o _ HNE.out HO.out, HCL.out])⟩, ⟨below_set HB.out G4.out⟩⟩
        case measure => simp [intOf]; omega
      by_cases e84 : s[j].toNat = 84
      · by_cases n1 : 1 ≤ n
        rotate_left
        · replace n1 : n < 1 := by omega
          have HBAD : Aside0 (okL x s.data.toList = false) := ⟨okL_bad HTK.out (by unfold okC; rw [if_neg (by omega), if_neg (by omega), if_pos (by omega), HO.out, ← HN.out]; exact decide_eq_false (by omega))⟩
          have HO2 : Aside0 (letO 84 = o) := ⟨by have := HO.out; rw [e84] at this; exact this⟩
          have e76 : ((s[j].toNat : Int) == 76) = false := by simp; omega
          have e78 : ((s[j].toNat : Int) == 78) = false := by simp; omega
          have e84 : ((s[j].toNat : Int) == 84) = true := by simp; omega
          have e83 : ((s[j].toNat : Int) == 83) = false := by simp; omega
          have M1 := Aside0.mk True.intro
          go_wp2_with (first
            | (go_at_call 28; clear M1; refine (field_at g1 84 o _ x (.slice A x.f7.length cap) BX.out HO2.out).mono ?_; rintro e w6 ⟨rfl, hw⟩; rw [hw]; clear hw w6)
            | (go_at_call 28; refine (field_at g4 84 o _ y (.slice A x.f7.length cap) BY.out HO2.out).mono ?_; rintro e w6 ⟨rfl, hw⟩; rw [hw]; clear hw w6)
            | (go_at_call 29; refine (squintref18_traps.calls _ _ rfl).mono ?_; rintro e w7 ⟨v7, rfl, hR, hb⟩; obtain ⟨At, ct, rfl⟩ := Kd.R_slice hR; have n0_ := Aside0.mk (below_step HB.out hb); have n1_ := Aside0.mk (blk_below BX.out hb); have n2_ := Aside0.mk (blk_below BY.out hb); clear HB BX BY hR hb q hz yq; have HB := n0_; have BX := n1_; have BY := n2_; clear n0_ n1_ n2_; have hz : w7.frozen? ⟨g4, o, none⟩ = false := blk_frozen BY.out o; have yq : w7.cell? ⟨g4, o, none⟩ = some (.int .i64 (getK y o)) := (blk_cell BY.out o).trans (ev_get y _ o HOB.out.1 HOB.out.2)))
          go_returns
          refine ⟨?_, HB.out⟩
          rw [HREF.out, if_pos HBAD.out]
          rfl
        by_cases n2 : n ≤ 5
        rotate_left
        · have d2 : decide (n ≤ 5) = false := decide_eq_false n2
          replace n2 : 5 < n := by omega
          have HBAD : Aside0 (okL x s.data.toList = false) := ⟨okL_bad HTK.out (by unfold okC; rw [if_neg (by omega), if_neg (by omega), if_pos (by omega), HO.out, ← HN.out]; exact decide_eq_false (by omega))⟩
          have HO2 : Aside0 (letO 84 = o) := ⟨by have := HO.out; rw [e84] at this; exact this⟩
          have e76 : ((s[j].toNat : Int) == 76) = false := by simp; omega
          have e78 : ((s[j].toNat : Int) == 78) = false := by simp; omega
          have e84 : ((s[j].toNat : Int) == 84) = true := by simp; omega
          have e83 : ((s[j].toNat : Int) == 83) = false := by simp; omega
          have M1 := Aside0.mk True.intro
          go_wp2_with (first
            | (go_at_call 28; clear M1; refine (field_at g1 84 o _ x (.slice A x.f7.length cap) BX.out HO2.out).mono ?_; rintro e w6 ⟨rfl, hw⟩; rw [hw]; clear hw w6)
            | (go_at_call 28; refine (field_at g4 84 o _ y (.slice A x.f7.length cap) BY.out HO2.out).mono ?_; rintro e w6 ⟨rfl, hw⟩; rw [hw]; clear hw w6)
            | (go_at_call 29; refine (squintref18_traps.calls _ _ rfl).mono ?_; rintro e w7 ⟨v7, rfl, hR, hb⟩; obtain ⟨At, ct, rfl⟩ := Kd.R_slice hR; have n0_ := Aside0.mk (below_step HB.out hb); have n1_ := Aside0.mk (blk_below BX.out hb); have n2_ := Aside0.mk (blk_below BY.out hb); clear HB BX BY hR hb q hz yq; have HB := n0_; have BX := n1_; have BY := n2_; clear n0_ n1_ n2_; have hz : w7.frozen? ⟨g4, o, none⟩ = false := blk_frozen BY.out o; have yq : w7.cell? ⟨g4, o, none⟩ = some (.int .i64 (getK y o)) := (blk_cell BY.out o).trans (ev_get y _ o HOB.out.1 HOB.out.2)))
          go_returns
          refine ⟨?_, HB.out⟩
          rw [HREF.out, if_pos HBAD.out]
          rfl
        have HOKS : Aside0 (okL x (s.data.toList.take (j + 1)) = true) := ⟨by rw [HTK.out, okL_snoc, HOKJ.out, Bool.true_and]; unfold okC; rw [if_neg (by omega), if_neg (by omega), if_pos (by omega), HO.out, ← HN.out]; exact decide_eq_true (by omega)⟩
        have HO2 : Aside0 (letO 84 = o) := ⟨by have := HO.out; rw [e84] at this; exact this⟩
        have e76 : ((s[j].toNat : Int) == 76) = false := by simp; omega
        have e78 : ((s[j].toNat : Int) == 78) = false := by simp; omega
        have e84 : ((s[j].toNat : Int) == 84) = true := by simp; omega
        have e83 : ((s[j].toNat : Int) == 83) = false := by simp; omega
        have M1 := Aside0.mk True.intro
        go_wp2_with (first
          | (go_at_call 28; clear M1; refine (field_at g1 84 o _ x (.slice A x.f7.length cap) BX.out HO2.out).mono ?_; rintro e w6 ⟨rfl, hw⟩; rw [hw]; clear hw w6)
          | (go_at_call 28; refine (field_at g4 84 o _ y (.slice A x.f7.length cap) BY.out HO2.out).mono ?_; rintro e w6 ⟨rfl, hw⟩; rw [hw]; clear hw w6)
          | (go_at_call 29; refine (squintref18_traps.calls _ _ rfl).mono ?_; rintro e w7 ⟨v7, rfl, hR, hb⟩; obtain ⟨At, ct, rfl⟩ := Kd.R_slice hR; have n0_ := Aside0.mk (below_step HB.out hb); have n1_ := Aside0.mk (blk_below BX.out hb); have n2_ := Aside0.mk (blk_below BY.out hb); clear HB BX BY hR hb q hz yq; have HB := n0_; have BX := n1_; have BY := n2_; clear n0_ n1_ n2_; have hz : w7.frozen? ⟨g4, o, none⟩ = false := blk_frozen BY.out o; have yq : w7.cell? ⟨g4, o, none⟩ = some (.int .i64 (getK y o)) := (blk_cell BY.out o).trans (ev_get y _ o HOB.out.1 HOB.out.2)))
        go_roundw
        case rel => exact ⟨j + 1, by go_num, by omega, by rw [HIS.out], HOKS, ⟨(Below.heap_setCell w7 _ _ g1 N4.out).trans BX.out⟩, ⟨(blk_set BY.out _ _).trans (by rw [clr_cells y _ o _ HNE.out HO.out, HCL.out])⟩, ⟨below_set HB.out G4.out⟩⟩
        case measure => simp [intOf]; omega
      by_cases e83 : s[j].toNat = 83
      · by_cases n1 : 1 ≤ n
        rotate_left
        · replace n1 : n < 1 := by omega
          have HBAD : Aside0 (okL x s.data.toList = false) := ⟨okL_bad HTK.out (by unfold okC; rw [if_neg (by omega), if_neg (by omega), if_neg (by omega), if_pos (by omega), HO.out, ← HN.out]; exact decide_eq_false (by omega))⟩
          have HO2 : Aside0 (letO 83 = o) := ⟨by have := HO.out; rw [e83] at this; exact this⟩
          have e76 : ((s[j].toNat : Int) == 76) = false := by simp; omega
          have e78 : ((s[j].toNat : Int) == 78) = false := by simp; omega
          have e84 : ((s[j].toNat : Int) == 84) = false := by simp; omega
          have e83 : ((s[j].toNat : Int) == 83) = true := by simp; omega
          have M1 := Aside0.mk True.intro
          go_wp2_with (first
            | (go_at_call 28; clear M1; refine (field_at g1 83 o _ x (.slice A x.f7.length cap) BX.out HO2.out).mono ?_; rintro e w6 ⟨rfl, hw⟩; rw [hw]; clear hw w6)
            | (go_at_call 28; refine (field_at g4 83 o _ y (.slice A x.f7.length cap) BY.out HO2.out).mono ?_; rintro e w6 ⟨rfl, hw⟩; rw [hw]; clear hw w6)
            | (go_at_call 30; refine (squintref18_counters.calls _ _ rfl).mono ?_; rintro e w7 ⟨v7, rfl, hR, hb⟩; obtain ⟨At, ct, rfl⟩ := Kd.R_slice hR; have n0_ := Aside0.mk (below_step HB.out hb); have n1_ := Aside0.mk (blk_below BX.out hb); have n2_ := Aside0.mk (blk_below BY.out hb); clear HB BX BY hR hb q hz yq; have HB := n0_; have BX := n1_; have BY := n2_; clear n0_ n1_ n2_; have hz : w7.frozen? ⟨g4, o, none⟩ = false := blk_frozen BY.out o; have yq : w7.cell? ⟨g4, o, none⟩ = some (.int .i64 (getK y o)) := (blk_cell BY.out o).trans (ev_get y _ o HOB.out.1 HOB.out.2)))
          go_returns
          refine ⟨?_, HB.out⟩
          rw [HREF.out, if_pos HBAD.out]
          rfl
        by_cases n2 : n ≤ 6
        rotate_left
        · have d2 : decide (n ≤ 6) = false := decide_eq_false n2
          replace n2 : 6 < n := by omega
          have HBAD : Aside0 (okL x s.data.toList = false) := ⟨okL_bad HTK.out (by unfold okC; rw [if_neg (by omega), if_neg (by omega), if_neg (by omega), if_pos (by omega), HO.out, ← HN.out]; exact decide_eq_false (by omega))⟩
          have HO2 : Aside0 (letO 83 = o) := ⟨by have := HO.out; rw [e83] at this; exact this⟩
          have e76 : ((s[j].toNat : Int) == 76) = false := by simp; omega
          have e78 : ((s[j].toNat : Int) == 78) = false := by simp; omega
          have e84 : ((s[j].toNat : Int) == 84) = false := by simp; omega
          have e83 : ((s[j].toNat : Int) == 83) = true := by simp; omega
          have M1 := Aside0.mk True.intro
          go_wp2_with (first
            | (go_at_call 28; clear M1; refine (field_at g1 83 o _ x (.slice A x.f7.length cap) BX.out HO2.out).mono ?_; rintro e w6 ⟨rfl, hw⟩; rw [hw]; clear hw w6)
            | (go_at_call 28; refine (field_at g4 83 o _ y (.slice A x.f7.length cap) BY.out HO2.out).mono ?_; rintro e w6 ⟨rfl, hw⟩; rw [hw]; clear hw w6)
            | (go_at_call 30; refine (squintref18_counters.calls _ _ rfl).mono ?_; rintro e w7 ⟨v7, rfl, hR, hb⟩; obtain ⟨At, ct, rfl⟩ := Kd.R_slice hR; have n0_ := Aside0.mk (below_step HB.out hb); have n1_ := Aside0.mk (blk_below BX.out hb); have n2_ := Aside0.mk (blk_below BY.out hb); clear HB BX BY hR hb q hz yq; have HB := n0_; have BX := n1_; have BY := n2_; clear n0_ n1_ n2_; have hz : w7.frozen? ⟨g4, o, none⟩ = false := blk_frozen BY.out o; have yq : w7.cell? ⟨g4, o, none⟩ = some (.int .i64 (getK y o)) := (blk_cell BY.out o).trans (ev_get y _ o HOB.out.1 HOB.out.2)))
          go_returns
          refine ⟨?_, HB.out⟩
          rw [HREF.out, if_pos HBAD.out]
          rfl
        have HOKS : Aside0 (okL x (s.data.toList.take (j + 1)) = true) := ⟨by rw [HTK.out, okL_snoc, HOKJ.out, Bool.true_and]; unfold okC; rw [if_neg (by omega), if_neg (by omega), if_neg (by omega), if_pos (by omega), HO.out, ← HN.out]; exact decide_eq_true (by omega)⟩
        have HO2 : Aside0 (letO 83 = o) := ⟨by have := HO.out; rw [e83] at this; exact this⟩
        have e76 : ((s[j].toNat : Int) == 76) = false := by simp; omega
        have e78 : ((s[j].toNat : Int) == 78) = false := by simp; omega
        have e84 : ((s[j].toNat : Int) == 84) = false := by simp; omega
        have e83 : ((s[j].toNat : Int) == 83) = true := by simp; omega
        have M1 := Aside0.mk True.intro
        go_wp2_with (first
          | (go_at_call 28; clear M1; refine (field_at g1 83 o _ x (.slice A x.f7.length cap) BX.out HO2.out).mono ?_; rintro e w6 ⟨rfl, hw⟩; rw [hw]; clear hw w6)
          | (go_at_call 28; refine (field_at g4 83 o _ y (.slice A x.f7.length cap) BY.out HO2.out).mono ?_; rintro e w6 ⟨rfl, hw⟩; rw [hw]; clear hw w6)
          | (go_at_call 30; refine (squintref18_counters.calls _ _ rfl).mono ?_; rintro e w7 ⟨v7, rfl, hR, hb⟩; obtain ⟨At, ct, rfl⟩ := Kd.R_slice hR; have n0_ := Aside0.mk (below_step HB.out hb); have n1_ := Aside0.mk (blk_below BX.out hb); have n2_ := Aside0.mk (blk_below BY.out hb); clear HB BX BY hR hb q hz yq; have HB := n0_; have BX := n1_; have BY := n2_; clear n0_ n1_ n2_; have hz : w7.frozen? ⟨g4, o, none⟩ = false := blk_frozen BY.out o; have yq : w7.cell? ⟨g4, o, none⟩ = some (.int .i64 (getK y o)) := (blk_cell BY.out o).trans (ev_get y _ o HOB.out.1 HOB.out.2)))
        go_roundw
        case rel => exact ⟨j + 1, by go_num, by omega, by rw [HIS.out], HOKS, ⟨(Below.heap_setCell w7 _ _ g1 N4.out).trans BX.out⟩, ⟨(blk_set BY.out _ _).trans (by rw [clr_cells y _ o _ HNE.out HO.out, HCL.out])⟩, ⟨below_set HB.out G4.out⟩⟩
        case measure => simp [intOf]; omega
      by_cases n1 : 0 ≤ n
      rotate_left
      · have d1 : decide (0 ≤ n) = false := decide_eq_false n1
        replace n1 : n < 0 := by omega
        have HBAD : Aside0 (okL x s.data.toList = false) := ⟨okL_bad HTK.out (by unfold okC; rw [if_neg (by omega), if_neg (by omega), if_neg (by omega), if_neg (by omega), HO.out, ← HN.out]; exact decide_eq_false (by omega))⟩
        have e76 : ((s[j].toNat : Int) == 76) = false := by simp; omega
        have e78 : ((s[j].toNat : Int) == 78) = false := by simp; omega
        have e84 : ((s[j].toNat : Int) == 84) = false := by simp; omega
        have e83 : ((s[j].toNat : Int) == 83) = false := by simp; omega
        have M1 := Aside0.mk True.intro
        go_wp2_with (first
          | (go_at_call 28; clear M1; refine (field_at g1 _ o _ x (.slice A x.f7.length cap) BX.out HO.out).mono ?_; rintro e w6 ⟨rfl, hw⟩; rw [hw]; clear hw w6)
          | (go_at_call 28; refine (field_at g4 _ o _ y (.slice A x.f7.length cap) BY.out HO.out).mono ?_; rintro e w6 ⟨rfl, hw⟩; rw [hw]; clear hw w6))
        go_returns
        refine ⟨?_, HB.out⟩
        rw [HREF.out, if_pos HBAD.out]
        rfl
      have HOKS : Aside0 (okL x (s.data.toList.take (j + 1)) = true) := ⟨by rw [HTK.out, okL_snoc, HOKJ.out, Bool.true_and]; unfold okC; rw [if_neg (by omega), if_neg (by omega), if_neg (by omega), if_neg (by omega), HO.out, ← HN.out]; exact decide_eq_true (by omega)⟩
      have e76 : ((s[j].toNat : Int) == 76) = false := by simp; omega
      have e78 : ((s[j].toNat : Int) == 78) = false := by simp; omega
      have e84 : ((s[j].toNat : Int) == 84) = false := by simp; omega
      have e83 : ((s[j].toNat : Int) == 83) = false := by simp; omega
      have M1 := Aside0.mk True.intro
      go_wp2_with (first
        | (go_at_call 28; clear M1; refine (field_at g1 _ o _ x (.slice A x.f7.length cap) BX.out HO.out).mono ?_; rintro e w6 ⟨rfl, hw⟩; rw [hw]; clear hw w6)
        | (go_at_call 28; refine (field_at g4 _ o _ y (.slice A x.f7.length cap) BY.out HO.out).mono ?_; rintro e w6 ⟨rfl, hw⟩; rw [hw]; clear hw w6))
      go_roundw
      case rel => exact ⟨j + 1, by go_num, by omega, by rw [HIS.out], HOKS, ⟨(Below.heap_setCell wo _ _ g1 N4.out).trans BX.out⟩, ⟨(blk_set BY.out _ _).trans (by rw [clr_cells y _ o _ HNE.out HO.out, HCL.out])⟩, ⟨below_set HB.out G4.out⟩⟩
      case measure => simp [intOf]; omega

    · obtain rfl : j = s.size := by omega
      rw [List.take_of_length_le (by simp)] at HOKJ HY
      have HREF2 : Aside0 (res = if y.f1 ≠ 0 ∨ y.f2 ≠ 0 ∨ y.f3 ≠ 0 ∨ y.f4 ≠ 0 ∨ y.f5 ≠ 0 ∨ y.f6 ≠ 0 ∨ (isL s.data.toList = false ∧ x.f7 ≠ []) then 180 else if risesB x.f7 = true then 0 else 180) := ⟨by rw [HREF.out, HOKJ.out, HY.out]; rfl⟩
      rw [List.take_of_length_le (by simp)]
      obtain ⟨bl, hbl⟩ : ∃ bl, bl = isL s.data.toList := ⟨_, rfl⟩
      rw [← hbl] at HREF2 ⊢
      clear hbl HREF HY HOKJ
      have y1 : wo.cell? ⟨g4, 1, none⟩ = some (.int .i64 y.f1) := (blk_cell BY.out 1).trans rfl
      have y2 : wo.cell? ⟨g4, 2, none⟩ = some (.int .i64 y.f2) := (blk_cell BY.out 2).trans rfl
      have y3 : wo.cell? ⟨g4, 3, none⟩ = some (.int .i64 y.f3) := (blk_cell BY.out 3).trans rfl
      have y4 : wo.cell? ⟨g4, 4, none⟩ = some (.int .i64 y.f4) := (blk_cell BY.out 4).trans rfl
      have y5 : wo.cell? ⟨g4, 5, none⟩ = some (.int .i64 y.f5) := (blk_cell BY.out 5).trans rfl
      have y6 : wo.cell? ⟨g4, 6, none⟩ = some (.int .i64 y.f6) := (blk_cell BY.out 6).trans rfl
      have x7 : wo.cell? ⟨g1, 7, none⟩ = some (.slice A x.f7.length cap) := (blk_cell BX.out 7).trans rfl
      by_cases z1 : y.f1 = 0
      rotate_left
      · have b1 : (y.f1 == 0) = false := by simpa using z1
        go_wp2_with (fail)
        go_returns
        refine ⟨?_, HB.out⟩
        rw [HREF2.out, if_pos (by simp [z1])]
        rfl
      by_cases z2 : y.f2 = 0
      rotate_left
      · have b2 : (y.f2 == 0) = false := by simpa using z2
        go_wp2_with (fail)
        go_returns
        refine ⟨?_, HB.out⟩
        rw [HREF2.out, if_pos (by simp [z2])]
        rfl
      by_cases z3 : y.f3 = 0
      rotate_left
      · have b3 : (y.f3 == 0) = false := by simpa using z3
        go_wp2_with (fail)
        go_returns
        refine ⟨?_, HB.out⟩
        rw [HREF2.out, if_pos (by simp [z3])]
        rfl
      by_cases z4 : y.f4 = 0
      rotate_left
      · have b4 : (y.f4 == 0) = false := by simpa using z4
        go_wp2_with (fail)
        go_returns
        refine ⟨?_, HB.out⟩
        rw [HREF2.out, if_pos (by simp [z4])]
        rfl
      by_cases z5 : y.f5 = 0
      rotate_left
      · have b5 : (y.f5 == 0) = false := by simpa using z5
        go_wp2_with (fail)
        go_returns
        refine ⟨?_, HB.out⟩
        rw [HREF2.out, if_pos (by simp [z5])]
        rfl
      by_cases z6 : y.f6 = 0
      rotate_left
      · have b6 : (y.f6 == 0) = false := by simpa using z6
        go_wp2_with (fail)
        go_returns
        refine ⟨?_, HB.out⟩
        rw [HREF2.out, if_pos (by simp [z6])]
        rfl
      rcases bl with _ | _
      · by_cases z7 : x.f7.length = 0
        rotate_left
        · have b7 : decide (0 < (x.f7.length : Int)) = true := decide_eq_true (by omega)
          have e7 : Aside0 (x.f7 ≠ []) := ⟨fun h => z7 (by rw [h]; rfl)⟩
          go_wp2_with (fail)
          go_returns
          refine ⟨?_, HB.out⟩
          rw [HREF2.out, if_pos (by simp [e7.out])]
          rfl
        have e7 : Aside0 (x.f7 = []) := ⟨List.eq_nil_of_length_eq_zero z7⟩
        have b7 : decide (0 < (x.f7.length : Int)) = false := decide_eq_false (by omega)
        have HREF3 : Aside0 (res = 0) := ⟨by rw [HREF2.out, if_neg (by simp [z1, z2, z3, z4, z5, z6, e7.out]), if_pos (by rw [e7.out]; rfl)]⟩
        go_wp2_with (fail)
        go_loopw [10] (fun v10 wr => v10 = .int .i64 0 ∧ wr = wo) (fun _ _ => 0)
        case atStart => first | exact ⟨rfl, rfl⟩ | (refine ⟨?_, ?_⟩ <;> rfl)
        case round =>
          obtain ⟨rfl, rfl⟩ := hrel
          go_wp2_with (fail)
          go_returns
          refine ⟨?_, HB.out⟩
          rw [HREF3.out]
          rfl
      · have HREF3 : Aside0 (res = if risesB x.f7 = true then 0 else 180) := ⟨by rw [HREF2.out, if_neg (by simp [z1, z2, z3, z4, z5, z6])]⟩
        go_wp2_with (fail)
        clear HREF2 BY y1 y2 y3 y4 y5 y6 z1 z2 z3 z4 z5 z6 x7
        have hlm := HR.out.2.1
        obtain ⟨l, hl⟩ : ∃ l, l = x.f7 := ⟨_, rfl⟩
        go_loopw [10] (fun v10 wr => ∃ i : Nat, v10 = .int .i64 i ∧ i ≤ x.f7.length ∧ Aside0 (risesB x.f7 = risesFrom (preL x.f7 i) (x.f7.drop i) ∧ -1 ≤ preL x.f7 i) ∧ Aside0 (wr.heap[g1]? = some (.cells (evC x (.slice A x.f7.length cap)) 24 (0, 0))) ∧ Aside0 (Below w.heap.size w wr)) (fun v10 _ => x.f7.length - (intOf v10).toNat)
        case atStart => exact ⟨0, rfl, by omega, ⟨rfl, show (-1 : Int) ≤ -1 by decide⟩, BX, HB⟩
        case round =>
          clear BX HB
          obtain ⟨i, rfl, hi, HP, BX, HB⟩ := hrel
          obtain ⟨wk, rfl⟩ : ∃ wk : World, wk = wr := ⟨_, rfl⟩
          have x7 : wk.cell? ⟨g1, 7, none⟩ = some (.slice A x.f7.length cap) := (blk_cell BX.out 7).trans rfl
          by_cases hil : i < x.f7.length
          · obtain ⟨ad, hA, hcell⟩ := Kd.at_int HR.out (i : Int) (by omega) (by omega)
            subst hA
            have hv := pw_cell_below HB.out hcell
            rw [Int.toNat_natCast] at hv
            obtain ⟨a, ha⟩ : ∃ a, a = rd x.f7 (i : Int) := ⟨_, rfl⟩
            rw [← ha] at hv hcell
            have HA := Aside0.mk (show a = x.f7[i] by rw [ha]; simp [rd, hil])
            clear ha hcell
            have HST : Aside0 (risesB x.f7 = (decide (preL x.f7 i < a) && risesFrom a (x.f7.drop (i + 1)))) := ⟨by rw [HP.out.1, List.drop_eq_getElem_cons hil, HA.out]; rfl⟩
            have HPN : Aside0 (preL x.f7 (i + 1) = a) := ⟨by rw [HA.out]; simp [preL, hil]⟩
            by_cases hneg : a < 0
            · have d1 : decide (a < 0) = true := decide_eq_true hneg
              have HRES : Aside0 (res = 180) := ⟨by rw [HREF3.out, HST.out, decide_eq_false (by have := HP.out.2; omega)]; rfl⟩
              go_wp2_with (fail)
              go_quiet (fail)
              go_wp2_with (fail)
              go_returns
              refine ⟨?_, pw_below_drewN HB.out _⟩
              rw [HRES.out]
              rfl
            have d1 : decide (a < 0) = false := decide_eq_false hneg
            replace hneg : 0 ≤ a := by omega
            by_cases hi0 : 0 < i
            rotate_left
            · have d3 : decide (0 < (i : Int)) = false := decide_eq_false (by omega)
              have HI0 : Aside0 (i = 0) := ⟨by omega⟩
              have HGO : Aside0 (risesB x.f7 = risesFrom (preL x.f7 (i + 1)) (x.f7.drop (i + 1)) ∧ -1 ≤ preL x.f7 (i + 1)) := ⟨by rw [HST.out, HPN.out, decide_eq_true (show preL x.f7 i < a by rw [HI0.out]; show -1 < a; omega), Bool.true_and], by rw [HPN.out]; omega⟩
              go_wp2_with (fail)
              go_quiet (fail)
              go_wp2_with (fail)
              go_roundw
              case rel => exact ⟨i + 1, by go_num, by omega, HGO, ⟨BX.out⟩, ⟨pw_below_drewN HB.out _⟩⟩
              case measure => simp [intOf]; omega
            · have d3 : decide (0 < (i : Int)) = true := decide_eq_true (by omega)
              obtain ⟨ad2, hA2, hcell⟩ := Kd.at_int HR.out ((i : Int) - 1) (by omega) (by omega)
              cases hA2
              have hp := pw_cell_below HB.out hcell
              obtain ⟨p, hpp⟩ : ∃ p, p = rd x.f7 ((i : Int) - 1) := ⟨_, rfl⟩
              rw [← hpp] at hp hcell
              have HPP : Aside0 (preL x.f7 i = p) := ⟨by
                obtain ⟨m, rfl⟩ : ∃ m, i = m + 1 := ⟨i - 1, by omega⟩
                rw [hpp, show ((m + 1 : Nat) : Int) - 1 = (m : Int) by omega]
                simp [preL, rd, show m < x.f7.length by omega]⟩
              clear hpp hcell
              obtain ⟨q, hq⟩ : ∃ q : Nat, ((i : Int) - 1).toNat = q := ⟨_, rfl⟩
              rw [hq] at hp
              by_cases hpa : a ≤ p
              · have HRES : Aside0 (res = 180) := ⟨by rw [HREF3.out, HST.out, HPP.out, decide_eq_false (by omega)]; rfl⟩
                have d2 : decide (a ≤ p) = true := decide_eq_true hpa
                have e1 : IntKind.i64.wrap ((i : Int) - 1) = (i : Int) - 1 := IntWalk.i64_in _ (by omega)
                have e2 : 0 ≤ (i : Int) - 1 := by omega
                have e3 : (i : Int) - 1 < (x.f7.length : Int) := by omega
                go_wp2_with (fail)
                go_quiet (fail)
                go_wp2_with (fail)
                go_returns
                refine ⟨?_, pw_below_drewN HB.out _⟩
                rw [HRES.out]
                rfl
              · have HGO : Aside0 (risesB x.f7 = risesFrom (preL x.f7 (i + 1)) (x.f7.drop (i + 1)) ∧ -1 ≤ preL x.f7 (i + 1)) := ⟨by rw [HST.out, HPN.out, HPP.out, decide_eq_true (show p < a by omega), Bool.true_and], by rw [HPN.out]; omega⟩
                have d2 : decide (a ≤ p) = false := decide_eq_false hpa
                have e1 : IntKind.i64.wrap ((i : Int) - 1) = (i : Int) - 1 := IntWalk.i64_in _ (by omega)
                have e2 : 0 ≤ (i : Int) - 1 := by omega
                have e3 : (i : Int) - 1 < (x.f7.length : Int) := by omega
                go_wp2_with (fail)
                go_quiet (fail)
                go_wp2_with (fail)
                go_roundw
                case rel => exact ⟨i + 1, by go_num, by omega, HGO, ⟨BX.out⟩, ⟨pw_below_drewN HB.out _⟩⟩
                case measure => simp [intOf]; omega
          · obtain rfl : i = x.f7.length := by omega
            have HRES : Aside0 (res = 0) := ⟨by rw [HREF3.out, HP.out.1, List.drop_length]; rfl⟩
            go_wp2_with (fail)
            go_returns
            refine ⟨?_, HB.out⟩
            rw [HRES.out]
            rfl

end Go.Proofs.YtiapfhlipoomaaaDoor.Given
