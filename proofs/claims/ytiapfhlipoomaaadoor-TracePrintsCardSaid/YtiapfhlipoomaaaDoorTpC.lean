/- Lemmas for the claim (what no proof of it names is left out). -/
import Derived.Test.YtiapfhlipoomaaaDoorTpB
import Derived.Laws.CopyOwn
import Derived.Lib.Join
import Derived.Deep.RegionHeld3
import Derived.StillTailTactics
import Derived.Laws.RangeAny
import Derived.Lib.OthersKept
import Derived.Lib.IndexMore
import Derived.Lib.CountLaws
section
namespace Go.Proofs.YtiapfhlipoomaaaDoor.Given
open Go.RowKit Go.Proofs.YtiapfhlipoomaaaDoorW.PrintWords Go.Proofs.YtiapfhlipoomaaaDoorW.PrintLast Go.Proofs.YtiapfhlipoomaaaDoorW.PrintMore Go.Proofs.YtiapfhlipoomaaaDoor.Print
set_option linter.unusedVariables false
set_option linter.unusedSimpArgs false
theorem field_at (g : Nat) (c : Int) (o : Nat) (w : World) (x : S24) (lv : Value) (hb : w.heap[g]? = some (.cells (evC x lv) 24 (0, 0))) (ho : letO c = o) :
    Calls Tryd.prog 28 #[.pointer (some ⟨g, 0, none⟩), .int .u8 c] w fun e w' => e = .returned (.pointer (some ⟨g, o, none⟩)) ∧ w' = w := by
  subst ho
  exact field_any g c w x lv hb
theorem word_says (k : Nat) (h1 : 1 ≤ k) (h2 : k ≤ 11) : squintref18_word.f k = some (wordB k) := by
  obtain rfl | rfl | rfl | rfl | rfl | rfl | rfl | rfl | rfl | rfl | rfl : k = 1 ∨ k = 2 ∨ k = 3 ∨ k = 4 ∨ k = 5 ∨ k = 6 ∨ k = 7 ∨ k = 8 ∨ k = 9 ∨ k = 10 ∨ k = 11 := by omega
  all_goals kernel_rfl
theorem word_none (n : Int) (h : n < 1 ∨ 11 < n) : squintref18_word.f n = some ⟨#[]⟩ := by
  unfold squintref18_word.f
  simp only [Option.bind_some, List.length_cons, List.length_nil]
  by_cases h1 : n < 1
  · rw [if_pos h1]
  · rw [if_neg h1, if_pos (by omega)]
def shapeB : Nat → ByteArray
  | 1 => ⟨#[80, 81]⟩
  | 2 => ⟨#[80, 73, 81, 74, 67]⟩
  | 3 => ⟨#[81, 74, 78]⟩
  | 4 => ⟨#[80, 73, 78]⟩
  | 5 => ⟨#[80]⟩
  | 6 => ⟨#[80, 84]⟩
  | 7 => ⟨#[]⟩
  | 8 => ⟨#[]⟩
  | 9 => ⟨#[76]⟩
  | 10 => ⟨#[80]⟩
  | 11 => ⟨#[80, 83]⟩
  | _ => ⟨#[]⟩
theorem shape_says (k : Nat) (h1 : 1 ≤ k) (h2 : k ≤ 11) : squintref18_shape.f k = some (shapeB k) := by
  obtain rfl | rfl | rfl | rfl | rfl | rfl | rfl | rfl | rfl | rfl | rfl : k = 1 ∨ k = 2 ∨ k = 3 ∨ k = 4 ∨ k = 5 ∨ k = 6 ∨ k = 7 ∨ k = 8 ∨ k = 9 ∨ k = 10 ∨ k = 11 := by omega
  all_goals kernel_rfl
theorem shape_size (k : Nat) : (shapeB k).size ≤ 5 := by unfold shapeB; split <;> decide
set_option maxRecDepth 100000 in
theorem ref_none (x : S24) (A : Option Addr) (cap : Nat) (w : World) (hk : x.f0 < 1 ∨ 11 < x.f0) :
    Calls Tryd.prog 11 #[evV x A cap] w fun e w' => e = .returned (.int .i64 180) ∧ Below w.heap.size w w' := by
  have hu24 := Tryd.underlying24
  have HB := Aside0.mk (Below.refl w.heap.size w)
  have HW := Aside0.mk (word_none x.f0 hk)
  clear hk
  go_enter Tryd.func11, Tryd.ntmps11
  go_wp2_with (first
    | ((with_reducible refine gate_dst (N := 1) rfl ?_); refine box_event ?hg (N := 1) ?hd (cs := evC x (.slice A x.f7.length cap)) (t := 24) ?hr ?_; (case hd => rfl); (case hg => rfl); (case hr => first | (go_simp; done) | (go_simp; rfl)); intro g1 hg w1 hbox hb; have HB1 := Aside0.mk (below_step HB.out hb); clear HB; have x0 : w1.cell? ⟨g1, 0, none⟩ = some (.int .i64 x.f0) := (blk_cell hbox 0).trans rfl; clear hbox hb hg)
    | (go_at_call 26; refine (squintref18_word.calls x.f0 _ _ HW.out).mono ?_; rintro e w2 ⟨rfl, hb⟩; have HB := Aside0.mk (below_step HB1.out hb); clear hb x0))
  go_returns
  exact ⟨rfl, HB.out⟩
theorem letO_le (c : Int) : 1 ≤ letO c ∧ letO c ≤ 6 := by
  unfold letO
  split <;> omega
def clrX (x : S24) (c : Int) : S24 := if c = 76 then x else setK x 0 (letO c)
def clrL (x : S24) (l : List UInt8) : S24 := l.foldl (fun y b => clrX y b.toNat) x
def okC (x : S24) (c : Int) : Bool :=
  if c = 76 then true else if c = 78 then true
  else if c = 84 then decide (1 ≤ getK x (letO c) ∧ getK x (letO c) ≤ 5)
  else if c = 83 then decide (1 ≤ getK x (letO c) ∧ getK x (letO c) ≤ 6)
  else decide (0 ≤ getK x (letO c))
def okL (x : S24) (l : List UInt8) : Bool := l.all fun b => okC x b.toNat
def isL (l : List UInt8) : Bool := l.any fun b => decide (b.toNat = 76)
theorem okL_snoc (x : S24) (l : List UInt8) (b : UInt8) : okL x (l ++ [b]) = (okL x l && okC x b.toNat) := by simp [okL]
theorem isL_snoc (l : List UInt8) (b : UInt8) : isL (l ++ [b]) = (isL l || decide (b.toNat = 76)) := by simp [isL]
theorem clrL_snoc (x : S24) (l : List UInt8) (b : UInt8) : clrL x (l ++ [b]) = clrX (clrL x l) b.toNat := by simp [clrL]
def refK (k : Nat) (x : S24) : Int :=
  let l := (shapeB k).data.toList
  if okL x l = false then 180
  else if (clrL x l).f1 ≠ 0 ∨ (clrL x l).f2 ≠ 0 ∨ (clrL x l).f3 ≠ 0 ∨ (clrL x l).f4 ≠ 0 ∨ (clrL x l).f5 ≠ 0 ∨ (clrL x l).f6 ≠ 0 ∨ (isL l = false ∧ x.f7 ≠ []) then 180
  else if risesB x.f7 = true then 0 else 180
theorem clr_cells (y : S24) (c : Int) (o : Nat) (lv : Value) (hc : c ≠ 76) (ho : letO c = o) : (evC y lv).setIfInBounds o (.int .i64 0) = evC (clrX y c) lv := by
  subst ho
  obtain ⟨h1, h2⟩ := letO_le c
  rw [setK_cells y lv 0 _ h1 h2]
  unfold clrX
  rw [if_neg hc]
def preL (l : List Int) : Nat → Int
  | 0 => -1
  | m + 1 => l.getD m 0
theorem take_byte (s : ByteArray) (j : Nat) (h : j < s.size) : s.data.toList.take (j + 1) = s.data.toList.take j ++ [s[j]] := by
  rw [List.take_succ_eq_append_getElem (by simpa using h)]; rfl
theorem okL_bad {x : S24} {s : ByteArray} {j : Nat} {h : j < s.size} (ht : s.data.toList.take (j + 1) = s.data.toList.take j ++ [s[j]]) (hb : okC x (s[j].toNat : Int) = false) : okL x s.data.toList = false := by
  have e := List.take_append_drop (j + 1) s.data.toList
  rw [← e, ht]
  simp [okL, hb]
set_option maxRecDepth 100000 in
set_option maxHeartbeats 4000000 in
theorem ref_kind (x : S24) (k : Nat) (h1 : 1 ≤ k) (h2 : k ≤ 11) (A : Option Addr) (cap : Nat) (w : World) (hk : x.f0 = k) (hr : Kd.C (Kd.int .i64) w A x.f7.length x.f7) (hc : x.f7.length ≤ cap) :
    Calls Tryd.prog 11 #[evV x A cap] w fun e w' => e = .returned (.int .i64 (refK k x)) ∧ Below w.heap.size w w' := by
  have hu24 := Tryd.underlying24
  have HB := Aside0.mk (Below.refl w.heap.size w)
  have HK := Aside0.mk hk
  have HR := Aside0.mk hr
  have HC := Aside0.mk hc
  have HWD := Aside0.mk (word_says k h1 h2)
  have HSH := Aside0.mk (shape_says k h1 h2)
  have hne : (wordB k).toList.isEmpty = false := by
    have key : ∀ k : Fin 12, 1 ≤ k.val → (wordB k.val).toList.isEmpty = false := by decide +kernel
    exact key ⟨k, by omega⟩ h1
  have hsz := shape_size k
  obtain ⟨wd, hwd⟩ : ∃ wd, wd = wordB k := ⟨_, rfl⟩
  obtain ⟨s, hs⟩ : ∃ s, s = shapeB k := ⟨_, rfl⟩
  have HREF : Aside0 (refK k x = if okL x s.data.toList = false then 180 else if (clrL x s.data.toList).f1 ≠ 0 ∨ (clrL x s.data.toList).f2 ≠ 0 ∨ (clrL x s.data.toList).f3 ≠ 0 ∨ (clrL x s.data.toList).f4 ≠ 0 ∨ (clrL x s.data.toList).f5 ≠ 0 ∨ (clrL x s.data.toList).f6 ≠ 0 ∨ (isL s.data.toList = false ∧ x.f7 ≠ []) then 180 else if risesB x.f7 = true then 0 else 180) := ⟨by rw [hs]; rfl⟩
  rw [← hwd] at hne HWD
  rw [← hs] at HSH hsz
  clear hk hr hc hwd hs h1 h2
  generalize refK k x = res at HREF ⊢
  go_enter Tryd.func11, Tryd.ntmps11
  go_wp2_with (first
    | ((with_reducible refine gate_dst (N := 1) rfl ?_); refine box_event ?hg (N := 1) ?hd (cs := evC x (.slice A x.f7.length cap)) (t := 24) ?hr ?_; (case hd => rfl); (case hg => rfl); (case hr => first | (go_simp; done) | (go_simp; rfl)); intro g1 hg w1 hbox hb; have HB1 := Aside0.mk (below_step HB.out hb); have G1 := Aside0.mk (show w.heap.size ≤ g1 by rw [hg]; exact HB.out.size); clear HB; have HB := HB1; clear HB1; have x0 : w1.cell? ⟨g1, 0, none⟩ = some (.int .i64 k) := (blk_cell hbox 0).trans (congrArg (fun n => some (Value.int .i64 n)) HK.out); have BX := Aside0.mk hbox; clear hbox hb hg)
    | (go_at_call 26; refine (squintref18_word.calls (k : Int) _ _ HWD.out).mono ?_; rintro e w2 ⟨rfl, hb⟩; have n0_ := Aside0.mk (below_step HB.out hb); clear HB; have HB := n0_; clear n0_; have n0_ := Aside0.mk (blk_below BX.out hb); clear BX; have BX := n0_; clear n0_ hb x0; have x0 : w2.cell? ⟨g1, 0, none⟩ = some (.int .i64 k) := (blk_cell BX.out 0).trans (congrArg (fun n => some (Value.int .i64 n)) HK.out))
    | (go_at_call 27; refine (squintref18_shape.calls (k : Int) _ _ HSH.out).mono ?_; rintro e w3 ⟨rfl, hb⟩; have n0_ := Aside0.mk (below_step HB.out hb); clear HB; have HB := n0_; clear n0_; have n0_ := Aside0.mk (blk_below BX.out hb); clear BX; have BX := n0_; clear n0_ hb x0; have x0 : w3.cell? ⟨g1, 0, none⟩ = some (.int .i64 x.f0) := (blk_cell BX.out 0).trans rfl; have x1 : w3.cell? ⟨g1, 1, none⟩ = some (.int .i64 x.f1) := (blk_cell BX.out 1).trans rfl; have x2 : w3.cell? ⟨g1, 2, none⟩ = some (.int .i64 x.f2) := (blk_cell BX.out 2).trans rfl; have x3 : w3.cell? ⟨g1, 3, none⟩ = some (.int .i64 x.f3) := (blk_cell BX.out 3).trans rfl; have x4 : w3.cell? ⟨g1, 4, none⟩ = some (.int .i64 x.f4) := (blk_cell BX.out 4).trans rfl; have x5 : w3.cell? ⟨g1, 5, none⟩ = some (.int .i64 x.f5) := (blk_cell BX.out 5).trans rfl; have x6 : w3.cell? ⟨g1, 6, none⟩ = some (.int .i64 x.f6) := (blk_cell BX.out 6).trans rfl; have x7 : w3.cell? ⟨g1, 7, none⟩ = some (.slice A x.f7.length cap) := (blk_cell BX.out 7).trans rfl)
    | ((with_reducible refine gate_dst (N := 4) rfl ?_); refine box_event ?hg (N := 4) ?hd (cs := evC ⟨0, 0, 0, 0, 0, 0, 0, []⟩ (.slice none 0 0)) (t := 24) ?hr ?_; (case hd => rfl); (case hg => rfl); (case hr => first | (go_simp; done) | (go_simp; rfl)); intro g4 hg w4 hbox hb; have N4 := Aside0.mk (show g1 ≠ g4 by have := blk_lt BX.out; omega); have n0_ := Aside0.mk (below_step HB.out hb); have G4 := Aside0.mk (show w.heap.size ≤ g4 by rw [hg]; exact HB.out.size); clear HB; have HB := n0_; clear n0_; have n0_ := Aside0.mk (blk_below BX.out hb); clear BX; have BX := n0_; have BY := Aside0.mk hbox; clear n0_ hb hbox hg x0 x1 x2 x3 x4 x5 x6 x7)
    | (refine wpList_store_row rfl 24 (.tmp 4) (.tmp 18) rfl g4 (evC x (.slice A x.f7.length cap)) rfl rfl 24 _ BY.out (by kernel_rfl) rfl (by kernel_rfl) ?_; have n0_ : Aside0 ((w4.setRow g4 (evC x (.slice A x.f7.length cap))).heap[g4]? = some (.cells (evC x (.slice A x.f7.length cap)) 24 (0, 0))) := ⟨setRow_heap _ _ _ _ _ _ BY.out⟩; have n2_ : Aside0 ((w4.setRow g4 (evC x (.slice A x.f7.length cap))).heap[g1]? = some (.cells (evC x (.slice A x.f7.length cap)) 24 (0, 0))) := ⟨(setRow_other _ _ _ _ N4.out).trans BX.out⟩; have n1_ := Aside0.mk (below_setRow HB.out G4.out (evC x (.slice A x.f7.length cap))); generalize w4.setRow g4 (evC x (.slice A x.f7.length cap)) = w5 at n0_ n1_ n2_ ⊢; clear BX BY HB; have BX := n2_; have BY := n0_; have HB := n1_; clear n0_ n1_ n2_))
  clear hne HWD HSH
  go_loopw [5, 6] (fun v5 v6 wr => ∃ j : Nat, v6 = .int .i64 j ∧ j ≤ s.size ∧ v5 = .bool (isL (s.data.toList.take j)) ∧ Aside0 (okL x (s.data.toList.take j) = true) ∧ Aside0 (wr.heap[g1]? = some (.cells (evC x (.slice A x.f7.length cap)) 24 (0, 0))) ∧ Aside0 (wr.heap[g4]? = some (.cells (evC (clrL x (s.data.toList.take j)) (.slice A x.f7.length cap)) 24 (0, 0))) ∧ Aside0 (Below w.heap.size w wr)) (fun _ v6 _ => s.size - (intOf v6).toNat)
  case atStart => exact ⟨0, rfl, by omega, rfl, ⟨rfl⟩, BX, BY, HB⟩
  case round =>
    clear BX BY HB
    obtain ⟨j, rfl, hj, rfl, HOKJ, BX, BY, HB⟩ := hrel
    obtain ⟨wo, rfl⟩ : ∃ wo : World, wo = wr := ⟨_, rfl⟩
    obtain ⟨y, hy⟩ : ∃ y, y = clrL x (s.data.toList.take j) := ⟨_, rfl⟩
    have HY := Aside0.mk hy
    rw [← hy] at BY
    clear hy
    by_cases hlt : j < s.size
    · have HTK : Aside0 (s.data.toList.take (j + 1) = s.data.toList.take j ++ [s[j]]) := ⟨take_byte s j hlt⟩
      have HCL : Aside0 (clrX y (s[j].toNat : Int) = clrL x (s.data.toList.take (j + 1))) := ⟨by rw [HTK.out, clrL_snoc, HY.out]⟩
      obtain ⟨o, ho⟩ : ∃ o, letO (s[j].toNat : Int) = o := ⟨_, rfl⟩
      have hob : 1 ≤ o ∧ o ≤ 6 := by rw [← ho]; exact letO_le _
      have HO := Aside0.mk ho
      have q : wo.cell? ⟨g1, o, none⟩ = some (.int .i64 (getK x o)) := (blk_cell BX.out o).trans (ev_get x _ o hob.1 hob.2)
      have hz : wo.frozen? ⟨g4, o, none⟩ = false := blk_frozen BY.out o
      have yq : wo.cell? ⟨g4, o, none⟩ = some (.int .i64 (getK y o)) := (blk_cell BY.out o).trans (ev_get y _ o hob.1 hob.2)
      have HOB := Aside0.mk hob
      obtain ⟨n, hn⟩ : ∃ n, n = getK x o := ⟨_, rfl⟩
      have HN := Aside0.mk hn
      rw [← hn] at q
      clear ho hn hob
      by_cases e76 : s[j].toNat = 76
      · have HIS : Aside0 (isL (s.data.toList.take (j + 1)) = true) := ⟨by rw [HTK.out, isL_snoc, decide_eq_true e76, Bool.or_true]⟩
        have HOKS : Aside0 (okL x (s.data.toList.take (j + 1)) = true) := ⟨by rw [HTK.out, okL_snoc, HOKJ.out, Bool.true_and]; unfold okC; rw [if_pos (by omega)]⟩
        have HCY : Aside0 (clrL x (s.data.toList.take (j + 1)) = y) := ⟨by rw [← HCL.out]; unfold clrX; rw [if_pos (by omega)]⟩
        have e : ((s[j].toNat : Int) == 76) = true := by simp; omega
        clear e76
        go_wp2_with (fail)
        go_roundw
        case rel => exact ⟨j + 1, by go_num, by omega, by rw [HIS.out], HOKS, BX, ⟨by rw [HCY.out]; exact BY.out⟩, HB⟩
        case measure => simp [intOf]; omega
      have HNE : Aside0 ((s[j].toNat : Int) ≠ 76) := ⟨by omega⟩
      have HIS : Aside0 (isL (s.data.toList.take (j + 1)) = isL (s.data.toList.take j)) := ⟨by rw [HTK.out, isL_snoc, decide_eq_false e76, Bool.or_false]⟩
      by_cases e78 : s[j].toNat = 78
      · have HOKS : Aside0 (okL x (s.data.toList.take (j + 1)) = true) := ⟨by rw [HTK.out, okL_snoc, HOKJ.out, Bool.true_and]; unfold okC; rw [if_neg (by omega), if_pos (by omega)]⟩
        have HO2 : Aside0 (letO 78 = o) := ⟨by have := HO.out; rw [e78] at this; exact this⟩
        have e76 : ((s[j].toNat : Int) == 76) = false := by simp; omega
        have e78 : ((s[j].toNat : Int) == 78) = true := by simp; omega
        have e84 : ((s[j].toNat : Int) == 84) = false := by simp; omega
        have e83 : ((s[j].toNat : Int) == 83) = false := by simp; omega
        have M1 := Aside0.mk True.intro
        go_wp2_with (first
          | (go_at_call 28; clear M1; refine (field_at g1 78 o _ x (.slice A x.f7.length cap) BX.out HO2.out).mono ?_; rintro e w6 ⟨rfl, hw⟩; rw [hw]; clear hw w6)
          | (go_at_call 28; refine (field_at g4 78 o _ y (.slice A x.f7.length cap) BY.out HO2.out).mono ?_; rintro e w6 ⟨rfl, hw⟩; rw [hw]; clear hw w6))
        go_roundw
        case rel => exact ⟨j + 1, by go_num, by omega, by rw [HIS.out], HOKS, ⟨(Below.heap_setCell wo _ _ g1 N4.out).trans BX.out⟩, ⟨(blk_set BY.out _ _).trans (by rw [clr_cells y _ o _ HNE.out HO.out, HCL.out])⟩, ⟨below_set HB.out G4.out⟩⟩
        case measure => simp [intOf]; omega
      by_cases e84 : s[j].toNat = 84
      · by_cases n1 : 1 ≤ n
        rotate_left
        · replace n1 : n < 1 := by omega
          have HBAD : Aside0 (okL x s.data.toList = false) := ⟨okL_bad HTK.out (by unfold okC; rw [if_neg (by omega), if_neg (by omega), if_pos (by omega), HO.out, ← HN.out]; exact decide_eq_false (by omega))⟩
          have HO2 : Aside0 (letO 84 = o) := ⟨by have := HO.out; rw [e84] at this; exact this⟩
          have e76 : ((s[j].toNat : Int) == 76) = false := by simp; omega
          have e78 : ((s[j].toNat : Int) == 78) = false := by simp; omega
          have e84 : ((s[j].toNat : Int) == 84) = true := by simp; omega
          have e83 : ((s[j].toNat : Int) == 83) = false := by simp; omega
          have M1 := Aside0.mk True.intro
          go_wp2_with (first
            | (go_at_call 28; clear M1; refine (field_at g1 84 o _ x (.slice A x.f7.length cap) BX.out HO2.out).mono ?_; rintro e w6 ⟨rfl, hw⟩; rw [hw]; clear hw w6)
            | (go_at_call 28; refine (field_at g4 84 o _ y (.slice A x.f7.length cap) BY.out HO2.out).mono ?_; rintro e w6 ⟨rfl, hw⟩; rw [hw]; clear hw w6)
            | (go_at_call 29; refine (squintref18_traps.calls _ _ rfl).mono ?_; rintro e w7 ⟨v7, rfl, hR, hb⟩; obtain ⟨At, ct, rfl⟩ := Kd.R_slice hR; have n0_ := Aside0.mk (below_step HB.out hb); have n1_ := Aside0.mk (blk_below BX.out hb); have n2_ := Aside0.mk (blk_below BY.out hb); clear HB BX BY hR hb q hz yq; have HB := n0_; have BX := n1_; have BY := n2_; clear n0_ n1_ n2_; have hz : w7.frozen? ⟨g4, o, none⟩ = false := blk_frozen BY.out o; have yq : w7.cell? ⟨g4, o, none⟩ = some (.int .i64 (getK y o)) := (blk_cell BY.out o).trans (ev_get y _ o HOB.out.1 HOB.out.2)))
          go_returns
          refine ⟨?_, HB.out⟩
          rw [HREF.out, if_pos HBAD.out]
          rfl
        by_cases n2 : n ≤ 5
        rotate_left
        · have d2 : decide (n ≤ 5) = false := decide_eq_false n2
          replace n2 : 5 < n := by omega
          have HBAD : Aside0 (okL x s.data.toList = false) := ⟨okL_bad HTK.out (by unfold okC; rw [if_neg (by omega), if_neg (by omega), if_pos (by omega), HO.out, ← HN.out]; exact decide_eq_false (by omega))⟩
          have HO2 : Aside0 (letO 84 = o) := ⟨by have := HO.out; rw [e84] at this; exact this⟩
          have e76 : ((s[j].toNat : Int) == 76) = false := by simp; omega
          have e78 : ((s[j].toNat : Int) == 78) = false := by simp; omega
          have e84 : ((s[j].toNat : Int) == 84) = true := by simp; omega
          have e83 : ((s[j].toNat : Int) == 83) = false := by simp; omega
          have M1 := Aside0.mk True.intro
          go_wp2_with (first
            | (go_at_call 28; clear M1; refine (field_at g1 84 o _ x (.slice A x.f7.length cap) BX.out HO2.out).mono ?_; rintro e w6 ⟨rfl, hw⟩; rw [hw]; clear hw w6)
            | (go_at_call 28; refine (field_at g4 84 o _ y (.slice A x.f7.length cap) BY.out HO2.out).mono ?_; rintro e w6 ⟨rfl, hw⟩; rw [hw]; clear hw w6)
            | (go_at_call 29; refine (squintref18_traps.calls _ _ rfl).mono ?_; rintro e w7 ⟨v7, rfl, hR, hb⟩; obtain ⟨At, ct, rfl⟩ := Kd.R_slice hR; have n0_ := Aside0.mk (below_step HB.out hb); have n1_ := Aside0.mk (blk_below BX.out hb); have n2_ := Aside0.mk (blk_below BY.out hb); clear HB BX BY hR hb q hz yq; have HB := n0_; have BX := n1_; have BY := n2_; clear n0_ n1_ n2_; have hz : w7.frozen? ⟨g4, o, none⟩ = false := blk_frozen BY.out o; have yq : w7.cell? ⟨g4, o, none⟩ = some (.int .i64 (getK y o)) := (blk_cell BY.out o).trans (ev_get y _ o HOB.out.1 HOB.out.2)))
          go_returns
          refine ⟨?_, HB.out⟩
          rw [HREF.out, if_pos HBAD.out]
          rfl
        have HOKS : Aside0 (okL x (s.data.toList.take (j + 1)) = true) := ⟨by rw [HTK.out, okL_snoc, HOKJ.out, Bool.true_and]; unfold okC; rw [if_neg (by omega), if_neg (by omega), if_pos (by omega), HO.out, ← HN.out]; exact decide_eq_true (by omega)⟩
        have HO2 : Aside0 (letO 84 = o) := ⟨by have := HO.out; rw [e84] at this; exact this⟩
        have e76 : ((s[j].toNat : Int) == 76) = false := by simp; omega
        have e78 : ((s[j].toNat : Int) == 78) = false := by simp; omega
        have e84 : ((s[j].toNat : Int) == 84) = true := by simp; omega
        have e83 : ((s[j].toNat : Int) == 83) = false := by simp; omega
        have M1 := Aside0.mk True.intro
        go_wp2_with (first
          | (go_at_call 28; clear M1; refine (field_at g1 84 o _ x (.slice A x.f7.length cap) BX.out HO2.out).mono ?_; rintro e w6 ⟨rfl, hw⟩; rw [hw]; clear hw w6)
          | (go_at_call 28; refine (field_at g4 84 o _ y (.slice A x.f7.length cap) BY.out HO2.out).mono ?_; rintro e w6 ⟨rfl, hw⟩; rw [hw]; clear hw w6)
          | (go_at_call 29; refine (squintref18_traps.calls _ _ rfl).mono ?_; rintro e w7 ⟨v7, rfl, hR, hb⟩; obtain ⟨At, ct, rfl⟩ := Kd.R_slice hR; have n0_ := Aside0.mk (below_step HB.out hb); have n1_ := Aside0.mk (blk_below BX.out hb); have n2_ := Aside0.mk (blk_below BY.out hb); clear HB BX BY hR hb q hz yq; have HB := n0_; have BX := n1_; have BY := n2_; clear n0_ n1_ n2_; have hz : w7.frozen? ⟨g4, o, none⟩ = false := blk_frozen BY.out o; have yq : w7.cell? ⟨g4, o, none⟩ = some (.int .i64 (getK y o)) := (blk_cell BY.out o).trans (ev_get y _ o HOB.out.1 HOB.out.2)))
        go_roundw
        case rel => exact ⟨j + 1, by go_num, by omega, by rw [HIS.out], HOKS, ⟨(Below.heap_setCell w7 _ _ g1 N4.out).trans BX.out⟩, ⟨(blk_set BY.out _ _).trans (by rw [clr_cells y _ o _ HNE.out HO.out, HCL.out])⟩, ⟨below_set HB.out G4.out⟩⟩
        case measure => simp [intOf]; omega
      by_cases e83 : s[j].toNat = 83
      · by_cases n1 : 1 ≤ n
        rotate_left
        · replace n1 : n < 1 := by omega
          have HBAD : Aside0 (okL x s.data.toList = false) := ⟨okL_bad HTK.out (by unfold okC; rw [if_neg (by omega), if_neg (by omega), if_neg (by omega), if_pos (by omega), HO.out, ← HN.out]; exact decide_eq_false (by omega))⟩
          have HO2 : Aside0 (letO 83 = o) := ⟨by have := HO.out; rw [e83] at this; exact this⟩
          have e76 : ((s[j].toNat : Int) == 76) = false := by simp; omega
          have e78 : ((s[j].toNat : Int) == 78) = false := by simp; omega
          have e84 : ((s[j].toNat : Int) == 84) = false := by simp; omega
          have e83 : ((s[j].toNat : Int) == 83) = true := by simp; omega
          have M1 := Aside0.mk True.intro
          go_wp2_with (first
            | (go_at_call 28; clear M1; refine (field_at g1 83 o _ x (.slice A x.f7.length cap) BX.out HO2.out).mono ?_; rintro e w6 ⟨rfl, hw⟩; rw [hw]; clear hw w6)
            | (go_at_call 28; refine (field_at g4 83 o _ y (.slice A x.f7.length cap) BY.out HO2.out).mono ?_; rintro e w6 ⟨rfl, hw⟩; rw [hw]; clear hw w6)
            | (go_at_call 30; refine (squintref18_counters.calls _ _ rfl).mono ?_; rintro e w7 ⟨v7, rfl, hR, hb⟩; obtain ⟨At, ct, rfl⟩ := Kd.R_slice hR; have n0_ := Aside0.mk (below_step HB.out hb); have n1_ := Aside0.mk (blk_below BX.out hb); have n2_ := Aside0.mk (blk_below BY.out hb); clear HB BX BY hR hb q hz yq; have HB := n0_; have BX := n1_; have BY := n2_; clear n0_ n1_ n2_; have hz : w7.frozen? ⟨g4, o, none⟩ = false := blk_frozen BY.out o; have yq : w7.cell? ⟨g4, o, none⟩ = some (.int .i64 (getK y o)) := (blk_cell BY.out o).trans (ev_get y _ o HOB.out.1 HOB.out.2)))
          go_returns
          refine ⟨?_, HB.out⟩
          rw [HREF.out, if_pos HBAD.out]
          rfl
        by_cases n2 : n ≤ 6
        rotate_left
        · have d2 : decide (n ≤ 6) = false := decide_eq_false n2
          replace n2 : 6 < n := by omega
          have HBAD : Aside0 (okL x s.data.toList = false) := ⟨okL_bad HTK.out (by unfold okC; rw [if_neg (by omega), if_neg (by omega), if_neg (by omega), if_pos (by omega), HO.out, ← HN.out]; exact decide_eq_false (by omega))⟩
          have HO2 : Aside0 (letO 83 = o) := ⟨by have := HO.out; rw [e83] at this; exact this⟩
          have e76 : ((s[j].toNat : Int) == 76) = false := by simp; omega
          have e78 : ((s[j].toNat : Int) == 78) = false := by simp; omega
          have e84 : ((s[j].toNat : Int) == 84) = false := by simp; omega
          have e83 : ((s[j].toNat : Int) == 83) = true := by simp; omega
          have M1 := Aside0.mk True.intro
          go_wp2_with (first
            | (go_at_call 28; clear M1; refine (field_at g1 83 o _ x (.slice A x.f7.length cap) BX.out HO2.out).mono ?_; rintro e w6 ⟨rfl, hw⟩; rw [hw]; clear hw w6)
            | (go_at_call 28; refine (field_at g4 83 o _ y (.slice A x.f7.length cap) BY.out HO2.out).mono ?_; rintro e w6 ⟨rfl, hw⟩; rw [hw]; clear hw w6)
            | (go_at_call 30; refine (squintref18_counters.calls _ _ rfl).mono ?_; rintro e w7 ⟨v7, rfl, hR, hb⟩; obtain ⟨At, ct, rfl⟩ := Kd.R_slice hR; have n0_ := Aside0.mk (below_step HB.out hb); have n1_ := Aside0.mk (blk_below BX.out hb); have n2_ := Aside0.mk (blk_below BY.out hb); clear HB BX BY hR hb q hz yq; have HB := n0_; have BX := n1_; have BY := n2_; clear n0_ n1_ n2_; have hz : w7.frozen? ⟨g4, o, none⟩ = false := blk_frozen BY.out o; have yq : w7.cell? ⟨g4, o, none⟩ = some (.int .i64 (getK y o)) := (blk_cell BY.out o).trans (ev_get y _ o HOB.out.1 HOB.out.2)))
          go_returns
          refine ⟨?_, HB.out⟩
          rw [HREF.out, if_pos HBAD.out]
          rfl
        have HOKS : Aside0 (okL x (s.data.toList.take (j + 1)) = true) := ⟨by rw [HTK.out, okL_snoc, HOKJ.out, Bool.true_and]; unfold okC; rw [if_neg (by omega), if_neg (by omega), if_neg (by omega), if_pos (by omega), HO.out, ← HN.out]; exact decide_eq_true (by omega)⟩
        have HO2 : Aside0 (letO 83 = o) := ⟨by have := HO.out; rw [e83] at this; exact this⟩
        have e76 : ((s[j].toNat : Int) == 76) = false := by simp; omega
        have e78 : ((s[j].toNat : Int) == 78) = false := by simp; omega
        have e84 : ((s[j].toNat : Int) == 84) = false := by simp; omega
        have e83 : ((s[j].toNat : Int) == 83) = true := by simp; omega
        have M1 := Aside0.mk True.intro
        go_wp2_with (first
          | (go_at_call 28; clear M1; refine (field_at g1 83 o _ x (.slice A x.f7.length cap) BX.out HO2.out).mono ?_; rintro e w6 ⟨rfl, hw⟩; rw [hw]; clear hw w6)
          | (go_at_call 28; refine (field_at g4 83 o _ y (.slice A x.f7.length cap) BY.out HO2.out).mono ?_; rintro e w6 ⟨rfl, hw⟩; rw [hw]; clear hw w6)
          | (go_at_call 30; refine (squintref18_counters.calls _ _ rfl).mono ?_; rintro e w7 ⟨v7, rfl, hR, hb⟩; obtain ⟨At, ct, rfl⟩ := Kd.R_slice hR; have n0_ := Aside0.mk (below_step HB.out hb); have n1_ := Aside0.mk (blk_below BX.out hb); have n2_ := Aside0.mk (blk_below BY.out hb); clear HB BX BY hR hb q hz yq; have HB := n0_; have BX := n1_; have BY := n2_; clear n0_ n1_ n2_; have hz : w7.frozen? ⟨g4, o, none⟩ = false := blk_frozen BY.out o; have yq : w7.cell? ⟨g4, o, none⟩ = some (.int .i64 (getK y o)) := (blk_cell BY.out o).trans (ev_get y _ o HOB.out.1 HOB.out.2)))
        go_roundw
        case rel => exact ⟨j + 1, by go_num, by omega, by rw [HIS.out], HOKS, ⟨(Below.heap_setCell w7 _ _ g1 N4.out).trans BX.out⟩, ⟨(blk_set BY.out _ _).trans (by rw [clr_cells y _ o _ HNE.out HO.out, HCL.out])⟩, ⟨below_set HB.out G4.out⟩⟩
        case measure => simp [intOf]; omega
      by_cases n1 : 0 ≤ n
      rotate_left
      · have d1 : decide (0 ≤ n) = false := decide_eq_false n1
        replace n1 : n < 0 := by omega
        have HBAD : Aside0 (okL x s.data.toList = false) := ⟨okL_bad HTK.out (by unfold okC; rw [if_neg (by omega), if_neg (by omega), if_neg (by omega), if_neg (by omega), HO.out, ← HN.out]; exact decide_eq_false (by omega))⟩
        have e76 : ((s[j].toNat : Int) == 76) = false := by simp; omega
        have e78 : ((s[j].toNat : Int) == 78) = false := by simp; omega
        have e84 : ((s[j].toNat : Int) == 84) = false := by simp; omega
        have e83 : ((s[j].toNat : Int) == 83) = false := by simp; omega
        have M1 := Aside0.mk True.intro
        go_wp2_with (first
          | (go_at_call 28; clear M1; refine (field_at g1 _ o _ x (.slice A x.f7.length cap) BX.out HO.out).mono ?_; rintro e w6 ⟨rfl, hw⟩; rw [hw]; clear hw w6)
          | (go_at_call 28; refine (field_at g4 _ o _ y (.slice A x.f7.length cap) BY.out HO.out).mono ?_; rintro e w6 ⟨rfl, hw⟩; rw [hw]; clear hw w6))
        go_returns
        refine ⟨?_, HB.out⟩
        rw [HREF.out, if_pos HBAD.out]
        rfl
      have HOKS : Aside0 (okL x (s.data.toList.take (j + 1)) = true) := ⟨by rw [HTK.out, okL_snoc, HOKJ.out, Bool.true_and]; unfold okC; rw [if_neg (by omega), if_neg (by omega), if_neg (by omega), if_neg (by omega), HO.out, ← HN.out]; exact decide_eq_true (by omega)⟩
      have e76 : ((s[j].toNat : Int) == 76) = false := by simp; omega
      have e78 : ((s[j].toNat : Int) == 78) = false := by simp; omega
      have e84 : ((s[j].toNat : Int) == 84) = false := by simp; omega
      have e83 : ((s[j].toNat : Int) == 83) = false := by simp; omega
      have M1 := Aside0.mk True.intro
      go_wp2_with (first
        | (go_at_call 28; clear M1; refine (field_at g1 _ o _ x (.slice A x.f7.length cap) BX.out HO.out).mono ?_; rintro e w6 ⟨rfl, hw⟩; rw [hw]; clear hw w6)
        | (go_at_call 28; refine (field_at g4 _ o _ y (.slice A x.f7.length cap) BY.out HO.out).mono ?_; rintro e w6 ⟨rfl, hw⟩; rw [hw]; clear hw w6))
      go_roundw
      case rel => exact ⟨j + 1, by go_num, by omega, by rw [HIS.out], HOKS, ⟨(Below.heap_setCell wo _ _ g1 N4.out).trans BX.out⟩, ⟨(blk_set BY.out _ _).trans (by rw [clr_cells y _ o _ HNE.out HO.out, HCL.out])⟩, ⟨below_set HB.out G4.out⟩⟩
      case measure => simp [intOf]; omega
    · obtain rfl : j = s.size := by omega
      rw [List.take_of_length_le (by simp)] at HOKJ HY
      have HREF2 : Aside0 (res = if y.f1 ≠ 0 ∨ y.f2 ≠ 0 ∨ y.f3 ≠ 0 ∨ y.f4 ≠ 0 ∨ y.f5 ≠ 0 ∨ y.f6 ≠ 0 ∨ (isL s.data.toList = false ∧ x.f7 ≠ []) then 180 else if risesB x.f7 = true then 0 else 180) := ⟨by rw [HREF.out, HOKJ.out, HY.out]; rfl⟩
      rw [List.take_of_length_le (by simp)]
      obtain ⟨bl, hbl⟩ : ∃ bl, bl = isL s.data.toList := ⟨_, rfl⟩
      rw [← hbl] at HREF2 ⊢
      clear hbl HREF HY HOKJ
      have y1 : wo.cell? ⟨g4, 1, none⟩ = some (.int .i64 y.f1) := (blk_cell BY.out 1).trans rfl
      have y2 : wo.cell? ⟨g4, 2, none⟩ = some (.int .i64 y.f2) := (blk_cell BY.out 2).trans rfl
      have y3 : wo.cell? ⟨g4, 3, none⟩ = some (.int .i64 y.f3) := (blk_cell BY.out 3).trans rfl
      have y4 : wo.cell? ⟨g4, 4, none⟩ = some (.int .i64 y.f4) := (blk_cell BY.out 4).trans rfl
      have y5 : wo.cell? ⟨g4, 5, none⟩ = some (.int .i64 y.f5) := (blk_cell BY.out 5).trans rfl
      have y6 : wo.cell? ⟨g4, 6, none⟩ = some (.int .i64 y.f6) := (blk_cell BY.out 6).trans rfl
      have x7 : wo.cell? ⟨g1, 7, none⟩ = some (.slice A x.f7.length cap) := (blk_cell BX.out 7).trans rfl
      by_cases z1 : y.f1 = 0
      rotate_left
      · have b1 : (y.f1 == 0) = false := by simpa using z1
        go_wp2_with (fail)
        go_returns
        refine ⟨?_, HB.out⟩
        rw [HREF2.out, if_pos (by simp [z1])]
        rfl
      by_cases z2 : y.f2 = 0
      rotate_left
      · have b2 : (y.f2 == 0) = false := by simpa using z2
        go_wp2_with (fail)
        go_returns
        refine ⟨?_, HB.out⟩
        rw [HREF2.out, if_pos (by simp [z2])]
        rfl
      by_cases z3 : y.f3 = 0
      rotate_left
      · have b3 : (y.f3 == 0) = false := by simpa using z3
        go_wp2_with (fail)
        go_returns
        refine ⟨?_, HB.out⟩
        rw [HREF2.out, if_pos (by simp [z3])]
        rfl
      by_cases z4 : y.f4 = 0
      rotate_left
      · have b4 : (y.f4 == 0) = false := by simpa using z4
        go_wp2_with (fail)
        go_returns
        refine ⟨?_, HB.out⟩
        rw [HREF2.out, if_pos (by simp [z4])]
        rfl
      by_cases z5 : y.f5 = 0
      rotate_left
      · have b5 : (y.f5 == 0) = false := by simpa using z5
        go_wp2_with (fail)
        go_returns
        refine ⟨?_, HB.out⟩
        rw [HREF2.out, if_pos (by simp [z5])]
        rfl
      by_cases z6 : y.f6 = 0
      rotate_left
      · have b6 : (y.f6 == 0) = false := by simpa using z6
        go_wp2_with (fail)
        go_returns
        refine ⟨?_, HB.out⟩
        rw [HREF2.out, if_pos (by simp [z6])]
        rfl
      rcases bl with _ | _
      · by_cases z7 : x.f7.length = 0
        rotate_left
        · have b7 : decide (0 < (x.f7.length : Int)) = true := decide_eq_true (by omega)
          have e7 : Aside0 (x.f7 ≠ []) := ⟨fun h => z7 (by rw [h]; rfl)⟩
          go_wp2_with (fail)
          go_returns
          refine ⟨?_, HB.out⟩
          rw [HREF2.out, if_pos (by simp [e7.out])]
          rfl
        have e7 : Aside0 (x.f7 = []) := ⟨List.eq_nil_of_length_eq_zero z7⟩
        have b7 : decide (0 < (x.f7.length : Int)) = false := decide_eq_false (by omega)
        have HREF3 : Aside0 (res = 0) := ⟨by rw [HREF2.out, if_neg (by simp [z1, z2, z3, z4, z5, z6, e7.out]), if_pos (by rw [e7.out]; rfl)]⟩
        go_wp2_with (fail)
        go_loopw [10] (fun v10 wr => v10 = .int .i64 0 ∧ wr = wo) (fun _ _ => 0)
        case atStart => first | exact ⟨rfl, rfl⟩ | (refine ⟨?_, ?_⟩ <;> rfl)
        case round =>
          obtain ⟨rfl, rfl⟩ := hrel
          go_wp2_with (fail)
          go_returns
          refine ⟨?_, HB.out⟩
          rw [HREF3.out]
          rfl
      · have HREF3 : Aside0 (res = if risesB x.f7 = true then 0 else 180) := ⟨by rw [HREF2.out, if_neg (by simp [z1, z2, z3, z4, z5, z6])]⟩
        go_wp2_with (fail)
        clear HREF2 BY y1 y2 y3 y4 y5 y6 z1 z2 z3 z4 z5 z6 x7
        have hlm := HR.out.2.1
        obtain ⟨l, hl⟩ : ∃ l, l = x.f7 := ⟨_, rfl⟩
        go_loopw [10] (fun v10 wr => ∃ i : Nat, v10 = .int .i64 i ∧ i ≤ x.f7.length ∧ Aside0 (risesB x.f7 = risesFrom (preL x.f7 i) (x.f7.drop i) ∧ -1 ≤ preL x.f7 i) ∧ Aside0 (wr.heap[g1]? = some (.cells (evC x (.slice A x.f7.length cap)) 24 (0, 0))) ∧ Aside0 (Below w.heap.size w wr)) (fun v10 _ => x.f7.length - (intOf v10).toNat)
        case atStart => exact ⟨0, rfl, by omega, ⟨rfl, show (-1 : Int) ≤ -1 by decide⟩, BX, HB⟩
        case round =>
          clear BX HB
          obtain ⟨i, rfl, hi, HP, BX, HB⟩ := hrel
          obtain ⟨wk, rfl⟩ : ∃ wk : World, wk = wr := ⟨_, rfl⟩
          have x7 : wk.cell? ⟨g1, 7, none⟩ = some (.slice A x.f7.length cap) := (blk_cell BX.out 7).trans rfl
          by_cases hil : i < x.f7.length
          · obtain ⟨ad, hA, hcell⟩ := Kd.at_int HR.out (i : Int) (by omega) (by omega)
            subst hA
            have hv := pw_cell_below HB.out hcell
            rw [Int.toNat_natCast] at hv
            obtain ⟨a, ha⟩ : ∃ a, a = rd x.f7 (i : Int) := ⟨_, rfl⟩
            rw [← ha] at hv hcell
            have HA := Aside0.mk (show a = x.f7[i] by rw [ha]; simp [rd, hil])
            clear ha hcell
            have HST : Aside0 (risesB x.f7 = (decide (preL x.f7 i < a) && risesFrom a (x.f7.drop (i + 1)))) := ⟨by rw [HP.out.1, List.drop_eq_getElem_cons hil, HA.out]; rfl⟩
            have HPN : Aside0 (preL x.f7 (i + 1) = a) := ⟨by rw [HA.out]; simp [preL, hil]⟩
            by_cases hneg : a < 0
            · have d1 : decide (a < 0) = true := decide_eq_true hneg
              have HRES : Aside0 (res = 180) := ⟨by rw [HREF3.out, HST.out, decide_eq_false (by have := HP.out.2; omega)]; rfl⟩
              go_wp2_with (fail)
              go_quiet (fail)
              go_wp2_with (fail)
              go_returns
              refine ⟨?_, pw_below_drewN HB.out _⟩
              rw [HRES.out]
              rfl
            have d1 : decide (a < 0) = false := decide_eq_false hneg
            replace hneg : 0 ≤ a := by omega
            by_cases hi0 : 0 < i
            rotate_left
            · have d3 : decide (0 < (i : Int)) = false := decide_eq_false (by omega)
              have HI0 : Aside0 (i = 0) := ⟨by omega⟩
              have HGO : Aside0 (risesB x.f7 = risesFrom (preL x.f7 (i + 1)) (x.f7.drop (i + 1)) ∧ -1 ≤ preL x.f7 (i + 1)) := ⟨by rw [HST.out, HPN.out, decide_eq_true (show preL x.f7 i < a by rw [HI0.out]; show -1 < a; omega), Bool.true_and], by rw [HPN.out]; omega⟩
              go_wp2_with (fail)
              go_quiet (fail)
              go_wp2_with (fail)
              go_roundw
              case rel => exact ⟨i + 1, by go_num, by omega, HGO, ⟨BX.out⟩, ⟨pw_below_drewN HB.out _⟩⟩
              case measure => simp [intOf]; omega
            · have d3 : decide (0 < (i : Int)) = true := decide_eq_true (by omega)
              obtain ⟨ad2, hA2, hcell⟩ := Kd.at_int HR.out ((i : Int) - 1) (by omega) (by omega)
              cases hA2
              have hp := pw_cell_below HB.out hcell
              obtain ⟨p, hpp⟩ : ∃ p, p = rd x.f7 ((i : Int) - 1) := ⟨_, rfl⟩
              rw [← hpp] at hp hcell
              have HPP : Aside0 (preL x.f7 i = p) := ⟨by
                obtain ⟨m, rfl⟩ : ∃ m, i = m + 1 := ⟨i - 1, by omega⟩
                rw [hpp, show ((m + 1 : Nat) : Int) - 1 = (m : Int) by omega]
                simp [preL, rd, show m < x.f7.length by omega]⟩
              clear hpp hcell
              obtain ⟨q, hq⟩ : ∃ q : Nat, ((i : Int) - 1).toNat = q := ⟨_, rfl⟩
              rw [hq] at hp
              by_cases hpa : a ≤ p
              · have HRES : Aside0 (res = 180) := ⟨by rw [HREF3.out, HST.out, HPP.out, decide_eq_false (by omega)]; rfl⟩
                have d2 : decide (a ≤ p) = true := decide_eq_true hpa
                have e1 : IntKind.i64.wrap ((i : Int) - 1) = (i : Int) - 1 := IntWalk.i64_in _ (by omega)
                have e2 : 0 ≤ (i : Int) - 1 := by omega
                have e3 : (i : Int) - 1 < (x.f7.length : Int) := by omega
                go_wp2_with (fail)
                go_quiet (fail)
                go_wp2_with (fail)
                go_returns
                refine ⟨?_, pw_below_drewN HB.out _⟩
                rw [HRES.out]
                rfl
              · have HGO : Aside0 (risesB x.f7 = risesFrom (preL x.f7 (i + 1)) (x.f7.drop (i + 1)) ∧ -1 ≤ preL x.f7 (i + 1)) := ⟨by rw [HST.out, HPN.out, HPP.out, decide_eq_true (show p < a by omega), Bool.true_and], by rw [HPN.out]; omega⟩
                have d2 : decide (a ≤ p) = false := decide_eq_false hpa
                have e1 : IntKind.i64.wrap ((i : Int) - 1) = (i : Int) - 1 := IntWalk.i64_in _ (by omega)
                have e2 : 0 ≤ (i : Int) - 1 := by omega
                have e3 : (i : Int) - 1 < (x.f7.length : Int) := by omega
                go_wp2_with (fail)
                go_quiet (fail)
                go_wp2_with (fail)
                go_roundw
                case rel => exact ⟨i + 1, by go_num, by omega, HGO, ⟨BX.out⟩, ⟨pw_below_drewN HB.out _⟩⟩
                case measure => simp [intOf]; omega
          · obtain rfl : i = x.f7.length := by omega
            have HRES : Aside0 (res = 0) := ⟨by rw [HREF3.out, HP.out.1, List.drop_length]; rfl⟩
            go_wp2_with (fail)
            go_returns
            refine ⟨?_, HB.out⟩
            rw [HRES.out]
            rfl
end Go.Proofs.YtiapfhlipoomaaaDoor.Given
end
section
namespace Go.Proofs.YtiapfhlipoomaaaDoor.Given
open Go.RowKit Go.Proofs.YtiapfhlipoomaaaDoorW.PrintWords Go.Proofs.YtiapfhlipoomaaaDoorW.PrintLast Go.Proofs.YtiapfhlipoomaaaDoorW.PrintMore Go.Proofs.YtiapfhlipoomaaaDoor.Print
set_option linter.unusedVariables false
set_option linter.unusedSimpArgs false
theorem ref_check (k : Nat) (h1 : 1 ≤ k) (h2 : k ≤ 11) (x : S24) : refK k x = checkK k x := by
  have e0 : risesB [] = true := rfl
  obtain ⟨x0, x1, x2, x3, x4, x5, x6, x7⟩ := x
  obtain rfl | rfl | rfl | rfl | rfl | rfl | rfl | rfl | rfl | rfl | rfl : k = 1 ∨ k = 2 ∨ k = 3 ∨ k = 4 ∨ k = 5 ∨ k = 6 ∨ k = 7 ∨ k = 8 ∨ k = 9 ∨ k = 10 ∨ k = 11 := by omega
  all_goals
    unfold refK checkK
    have key : ∀ (p q r s : Prop) [Decidable p] [Decidable q] [Decidable r] [Decidable s], (s ↔ (¬ p ∧ ¬ q ∧ r)) → (if p then (180 : Int) else if q then 180 else if r then 0 else 180) = if s then 0 else 180 := by
      intro p q r s _ _ _ _ h
      by_cases hp : p <;> by_cases hq : q <;> by_cases hr : r <;> by_cases hs : s <;> simp_all
    refine key _ _ _ _ ?_
    simp only [shapeB, okL, okC, clrL, clrX, letO, setK, getK, isL, okK, List.all_cons, List.all_nil, List.any_cons, List.any_nil, List.foldl_cons, List.foldl_nil]
    by_cases h7 : x7 = []
    · subst h7
      simp [e0]
      try omega
    · simp [h7]
      try omega
theorem ref_any (x : S24) (A : Option Addr) (cap : Nat) (w : World) (hr : Kd.C (Kd.int .i64) w A x.f7.length x.f7) (hc : x.f7.length ≤ cap) :
    Calls Tryd.prog 11 #[evV x A cap] w fun e w' => e = .returned (.int .i64 (checkOf x)) ∧ Below w.heap.size w w' := by
  by_cases hk : 1 ≤ x.f0 ∧ x.f0 ≤ 11
  · obtain ⟨k, hkk⟩ : ∃ k : Nat, x.f0 = k := ⟨x.f0.toNat, by omega⟩
    have hco : checkOf x = refK k x := by unfold checkOf; rw [if_pos hk, hkk, Int.toNat_natCast, ref_check k (by omega) (by omega)]
    rw [hco]
    exact ref_kind x k (by omega) (by omega) A cap w hkk hr hc
  · have hco : checkOf x = 180 := by unfold checkOf; rw [if_neg hk]
    rw [hco]
    exact ref_none x A cap w (by omega)
end Go.Proofs.YtiapfhlipoomaaaDoor.Given
end
section
namespace Go.Proofs.YtiapfhlipoomaaaDoor.Given
open Go.RowKit Go.Proofs.YtiapfhlipoomaaaDoorW.PrintWords Go.Proofs.YtiapfhlipoomaaaDoorW.PrintLast Go.Proofs.YtiapfhlipoomaaaDoorW.PrintMore Go.Proofs.YtiapfhlipoomaaaDoor.Print
set_option linter.unusedVariables false
set_option linter.unusedSimpArgs false
def joinB (xs : List ByteArray) : ByteArray := ⟨(Lib.join (xs.map (·.data.toList)) [32]).toArray⟩
def lineB (xs : List ByteArray) : ByteArray := joinB xs ++ ⟨#[10]⟩
theorem joinB_size (xs : List ByteArray) : (joinB xs).size = (Lib.join (xs.map (·.data.toList)) [32]).length := by
  show (Lib.join (xs.map (·.data.toList)) [32]).toArray.size = _
  rw [List.size_toArray]
theorem lineB_size (xs : List ByteArray) : (lineB xs).size = (joinB xs).size + 1 := by
  rw [lineB, size_append]
  rfl
theorem join_len : ∀ (xs : List (List UInt8)), xs.length ≤ (Lib.join xs [32]).length + 1
  | [] => by simp
  | x :: r => by
    rw [Lib.join_cons]
    have : r.length ≤ (Lib.joinTail [32] r).length := by
      unfold Lib.joinTail
      induction r with
      | nil => simp
      | cons y r ih => simp only [List.map_cons, List.flatten_cons, List.length_append, List.length_cons, List.length_nil]; omega
    simp only [List.length_cons, List.length_append]
    omega
theorem R_blk {α : Type} {d : Kd α} {e base : Nat} {ok : Nat → Prop} {w : World} {v : Value} {xs : List α} (h : Kd.R d e w base ok v xs) (hne : xs ≠ []) : ∃ g c, v = .slice (some ⟨g, 0, none⟩) xs.length c ∧ g < w.heap.size := by
  obtain ⟨inner, ho⟩ := Kd.R_own h
  obtain ⟨A, c, hv, hl, hr⟩ := Kd.R_reads h
  have h2 := ho.2
  rcases h2 with ⟨h0, hn⟩ | ⟨g, cap, cur, hv', hB, hg, _⟩
  · rw [hv] at h0
    injection h0 with _ h1 _
    exact absurd (List.eq_nil_of_length_eq_zero h1) hne
  · exact ⟨g, cap, hv', blk_lt hg⟩
theorem join_call {base : Nat} {ok : Nat → Prop} {v : Value} (xs : List ByteArray) (w : World) (hv : Kd.R Kd.string 9 w base ok v xs) (hne : xs ≠ []) (hs : (joinB xs).size < 140737488355328) :
    Calls Tryd.prog 45 #[v, .string ⟨#[32]⟩] w fun e w' => e = .returned (.string (joinB xs)) ∧ Below w.heap.size w w' := by
  obtain ⟨g, c, rfl, hg⟩ := R_blk hv hne
  obtain ⟨_, hl, hr⟩ := Kd.R_reads' hv
  have hj := joinB_size xs
  have hlen := join_len (xs.map (·.data.toList))
  rw [List.length_map] at hlen
  refine (Tryd.strings_Join g 0 c xs ⟨#[32]⟩ w ?_ hg (by omega) hl (by show (Lib.join (xs.map (·.data.toList)) [32]).length ≤ _; omega)).mono ?_
  · intro j x hx
    have hj := (List.getElem?_eq_some_iff.1 hx).1
    obtain ⟨ad, e, hc⟩ := Kd.at_string hr (j : Int) (by omega) (by omega)
    injection e with e
    subst e
    rw [Int.toNat_natCast] at hc
    have e2 : (⟨g, 0, none⟩ : Addr).add j = ⟨g, 0 + j, none⟩ := by simp [Addr.add]; try exact Eq.symm
    rw [e2] at hc
    rw [hc]
    simp [rdOf, hx]
  · rintro e w' ⟨rfl, hb⟩
    exact ⟨rfl, hb⟩
set_option maxRecDepth 100000 in
set_option maxHeartbeats 2000000 in
theorem put_any {base : Nat} {ok : Nat → Prop} {v : Value} (b : Nat) (acc : ByteArray) (xs : List ByteArray) (w : World) (h : Lib.IsBuilder 61 5 b b (Lib.strCells acc) w) (hv : Kd.R Kd.string 9 w base ok v xs) (hne : xs ≠ []) (hlen : acc.size + (lineB xs).size ≤ 140737488355328) (hbw : b ≤ w.heap.size) :
    Calls Tryd.prog 33 #[.pointer (some ⟨b, 0, none⟩), v] w fun e w' => e = .returned (.tuple #[]) ∧ Lib.IsBuilder 61 5 b b (Lib.strCells (acc ++ lineB xs)) w' ∧ Below b w w' := by
  have H := Aside0.mk h
  have HV := Aside0.mk hv
  have hls := lineB_size xs
  have HS : Aside0 ((joinB xs).size < 140737488355328) := ⟨by omega⟩
  have HL : Aside0 (acc.size + (joinB xs).size ≤ 140737488355328) := ⟨by omega⟩
  have HL2 : Aside0 ((acc ++ joinB xs).size + 1 ≤ 140737488355328) := ⟨by rw [size_append]; omega⟩
  have HBW := Aside0.mk hbw
  clear h hv hlen hls hbw
  go_enter Tryd.func33, Tryd.ntmps33
  go_wp2_with (first
    | (go_at_call 45; refine (join_call xs _ HV.out hne HS.out).mono ?_; rintro e w1 ⟨rfl, hb⟩; have H1 := Aside0.mk (builder_below H.out hb); have B1 := Aside0.mk (show Below b w w1 from ⟨hb.os, hb.tape, hb.output, hb.size, fun k hk => hb.block k (by have := HBW.out; omega)⟩); clear hb)
    | (go_at_call 44; refine (write_on b acc (joinB xs) _ H1.out HL.out).mono ?_; rintro e w2 ⟨rfl, h2, hb, _⟩; have H2 := Aside0.mk h2; have B2 := Aside0.mk (B1.out.trans hb); clear h2 hb)
    | (go_at_call 46; refine (byte_any b b _ 10 _ H2.out (by rw [Lib.strCells_length]; exact HL2.out) (by have := HBW.out; have := B2.out.size; omega)).mono ?_; rintro e w3 ⟨rfl, h3, hb, _⟩; have H3 := Aside0.mk h3; have B3 := Aside0.mk (B2.out.trans hb); clear h3 hb))
  go_end0
  refine ⟨rfl, .inr ?_, B3.out⟩
  have := H3.out
  rw [strCells_append, lineB, strCells_append, ← List.append_assoc, ← strCells_append]
  exact this
end Go.Proofs.YtiapfhlipoomaaaDoor.Given
end
section
namespace Go.Proofs.YtiapfhlipoomaaaDoor.Given
open Go.RowKit Go.Proofs.YtiapfhlipoomaaaDoorW.PrintWords Go.Proofs.YtiapfhlipoomaaaDoorW.PrintLast Go.Proofs.YtiapfhlipoomaaaDoorW.PrintMore Go.Proofs.YtiapfhlipoomaaaDoor.Print
set_option linter.unusedVariables false
set_option linter.unusedSimpArgs false
def wordsF (k : Nat) (x : S24) : List ByteArray := wordB k :: (foK k).map (fun o => itoaB (getK x o))
def wordsM (k : Nat) (x : S24) : List ByteArray := if clsK k = 1 then [itoaB x.f6] else if clsK k = 2 then [(wsK k).getD x.f6.toNat ⟨#[]⟩] else []
def wordsK (k : Nat) (x : S24) : List ByteArray := wordsF k x ++ wordsM k x ++ x.f7.map itoaB
def wordsX (x : S24) : List ByteArray := wordsK x.f0.toNat x
def textOf (l : List S24) : ByteArray := l.foldl (fun acc x => acc ++ lineB (wordsX x)) ⟨#[]⟩
def printOf (l : List S24) : ByteArray × Int := if l.all okX = true then (textOf l, 0) else (⟨#[]⟩, 180)
theorem textOf_snoc (l : List S24) (x : S24) : textOf (l ++ [x]) = textOf l ++ lineB (wordsX x) := by simp [textOf]
theorem textOf_size (a b : List S24) : (textOf a).size ≤ (textOf (a ++ b)).size := by
  have key : ∀ (b : List S24) (s : ByteArray), s.size ≤ (b.foldl (fun acc x => acc ++ lineB (wordsX x)) s).size := by
    intro b
    induction b with
    | nil => intro s; exact Nat.le_refl _
    | cons x b ih =>
      intro s
      refine Nat.le_trans ?_ (ih _)
      rw [size_append]
      omega
  have : textOf (a ++ b) = b.foldl (fun acc x => acc ++ lineB (wordsX x)) (textOf a) := by simp [textOf]
  rw [this]
  exact key b _
theorem words_len (xs : List ByteArray) : xs.length ≤ (lineB xs).size := by
  have h := join_len (xs.map (·.data.toList))
  rw [List.length_map] at h
  rw [lineB_size, joinB_size]
  exact h
def rngX (x : S24) : Prop := (∀ o, o ≤ 6 → -9223372036854775808 ≤ getK x o ∧ getK x o ≤ 9223372036854775807) ∧ ∀ n ∈ x.f7, -9223372036854775808 ≤ n ∧ n ≤ 9223372036854775807
end Go.Proofs.YtiapfhlipoomaaaDoor.Given
end
section
namespace Go.Proofs.YtiapfhlipoomaaaDoor.Given
open Go.RowKit Go.Proofs.YtiapfhlipoomaaaDoorW.PrintWords Go.Proofs.YtiapfhlipoomaaaDoorW.PrintLast Go.Proofs.YtiapfhlipoomaaaDoorW.PrintMore Go.Proofs.YtiapfhlipoomaaaDoor.Print
set_option linter.unusedVariables false
set_option linter.unusedSimpArgs false
theorem take_next {α β : Type} (f : α → β) (l : List α) (k : Nat) (x : α) (h : l[k]? = some x) : (l.take (k + 1)).map f = (l.take k).map f ++ [f x] := by
  rw [List.take_add_one, h]
  simp
theorem ret_print {a b : ByteArray × Int} (h : a = b) : Ending.returned (.tuple #[.string a.1, .int .i64 a.2]) = .returned (.tuple #[.string b.1, .int .i64 b.2]) := by rw [h]
theorem print_bad (l : List S24) (k : Nat) (x : S24) (hx : l[k]? = some x) (h : okX x = false) : printOf l = (⟨#[]⟩, 180) := by
  unfold printOf
  rw [if_neg]
  intro ha
  have := List.all_eq_true.1 ha x (List.mem_of_getElem? hx)
  rw [h] at this
  cases this
theorem ws_in (k : Nat) (x : S24) (hc : clsK k = 2) (hok : okX x = true) (hk : x.f0 = k) : 0 ≤ x.f6 ∧ x.f6 < (wsK k).length := by
  unfold okX at hok
  rw [Bool.and_eq_true] at hok
  have h := hok.2
  rw [hk, Int.toNat_natCast] at h
  match k, hc, h with
  | 6, _, h => simp [okK, wsK] at h ⊢; omega
  | 11, _, h => simp [okK, wsK] at h ⊢; omega
theorem num_at {w : World} {A : Option Addr} {n : Nat} {ns : List Int} (h : Kd.C (Kd.int .i64) w A n ns) (j : Nat) (x : Int) (hx : ns[j]? = some x) : ∃ ad, A = some ad ∧ w.cell? (ad.add j) = some (.int .i64 x) := by
  have hl := (List.getElem?_eq_some_iff.1 hx).1
  obtain ⟨ad, e, hc⟩ := Kd.at_int h (j : Int) (by omega) (by have := Kd.C_len h; omega)
  rw [Int.toNat_natCast] at hc
  refine ⟨ad, e, ?_⟩
  rw [hc]
  simp [rd, hx]
theorem ok_kind (x : S24) (h : okX x = true) : ∃ k : Nat, 1 ≤ k ∧ k ≤ 11 ∧ x.f0 = k := by
  unfold okX at h
  rw [Bool.and_eq_true, decide_eq_true_eq] at h
  exact ⟨x.f0.toNat, by omega, by omega, by omega⟩
theorem cls_of (k : Nat) : clsK k = 0 ∨ clsK k = 1 ∨ clsK k = 2 := by
  unfold clsK
  split <;> simp
theorem ev_at {w : World} {A : Option Addr} {l : List S24} (h : Kd.C k24 w A l.length l) (j : Nat) (x : S24) (hx : l[j]? = some x) :
    ∃ ad A7 c7, A = some ad ∧ x.f7.length ≤ c7 ∧ Kd.C (Kd.int .i64) w A7 x.f7.length x.f7 ∧ ∀ i v, (evC x (.slice A7 x.f7.length c7))[i]? = some v → w.cell? (ad.add (j * 8 + i)) = some v := by
  have hl := (List.getElem?_eq_some_iff.1 hx).1
  obtain ⟨ad, c, e, _, hK, hc⟩ := Kd.C_get h z24 (j : Int) (by omega) (by omega)
  rw [Int.toNat_natCast] at hK hc
  have hg : l.getD j z24 = x := by simp [hx]
  rw [hg] at hK
  obtain ⟨A7, c7, rfl, l7, g7⟩ := k24_open hK
  exact ⟨ad, A7, c7, e, l7, g7, fun i v hv => hc i v (by rw [← hv]; simp [evC])⟩
set_option maxRecDepth 100000 in
set_option maxHeartbeats 16000000 in
theorem print_any (A : Option Addr) (cp : Nat) (l : List S24) (w : World) (hr : Kd.C k24 w A l.length l) (hL : LW w) (hrng : ∀ x ∈ l, rngX x) (hsz : (textOf l).size ≤ 1099511627776) :
    Calls Tryd.prog 14 #[.slice A l.length cp] w fun e w' => e = .returned (.tuple #[.string (printOf l).1, .int .i64 (printOf l).2]) ∧ Below w.heap.size w w' := by
  have hu24 := Tryd.underlying24
  have hu48 := Tryd.underlying48
  have hu61 := Tryd.underlying61
  have hm := hr.2.1
  have HR := Aside0.mk hr
  have HL := Aside0.mk hL
  have HRG0 := Aside0.mk hrng
  have HS := Aside0.mk hsz
  clear hr hL hrng hsz
  go_enter Tryd.func14, Tryd.ntmps14
  go_wp2
  go_loopw [17] (fun i wr => ∃ j : Nat, i = .int .i64 j ∧ j ≤ l.length ∧ Aside0 (Lib.IsBuilder 61 5 w.heap.size w.heap.size (Lib.strCells (textOf (l.take j))) wr) ∧ Aside0 (Below w.heap.size w wr) ∧ Aside0 (∀ x ∈ l.take j, okX x = true)) (fun i _ => l.length - (intOf i).toNat)
  case atStart => exact ⟨0, rfl, by omega, ⟨show Lib.IsBuilder 61 5 _ _ [] _ from Lib.fresh_isBuilder 61 5 w⟩, ⟨bel1 w _⟩, ⟨fun x h => by simp at h⟩⟩
  case round =>
    obtain ⟨j, rfl, hj, HBL, HB, HAL⟩ := hrel
    obtain ⟨wo, rfl⟩ : ∃ wo : World, wo = wr := ⟨_, rfl⟩
    by_cases hlt : j < l.length
    · obtain ⟨x, hx⟩ : ∃ x, l[j]? = some x := ⟨_, List.getElem?_eq_getElem hlt⟩
      obtain ⟨ad, A7, c7, rfl, h7, hC7, hrow⟩ := ev_at HR.out j x hx
      have HC7 := Aside0.mk hC7
      have H7 := Aside0.mk h7
      have HRX := Aside0.mk (HRG0.out x (List.mem_of_getElem? hx))
      have q0 : wo.cell? (ad.add (j * 8)) = some (.int .i64 x.f0) := pw_cell_below HB.out (hrow 0 _ rfl)
      have q1 : wo.cell? ⟨(ad.add (j * 8)).block, (ad.add (j * 8)).off + 1, none⟩ = some (.int .i64 x.f1) := by rw [← add_field _ _ 1 (by omega)]; exact pw_cell_below HB.out (hrow 1 _ rfl)
      have q2 : wo.cell? ⟨(ad.add (j * 8)).block, (ad.add (j * 8)).off + 2, none⟩ = some (.int .i64 x.f2) := by rw [← add_field _ _ 2 (by omega)]; exact pw_cell_below HB.out (hrow 2 _ rfl)
      have q3 : wo.cell? ⟨(ad.add (j * 8)).block, (ad.add (j * 8)).off + 3, none⟩ = some (.int .i64 x.f3) := by rw [← add_field _ _ 3 (by omega)]; exact pw_cell_below HB.out (hrow 3 _ rfl)
      have q4 : wo.cell? ⟨(ad.add (j * 8)).block, (ad.add (j * 8)).off + 4, none⟩ = some (.int .i64 x.f4) := by rw [← add_field _ _ 4 (by omega)]; exact pw_cell_below HB.out (hrow 4 _ rfl)
      have q5 : wo.cell? ⟨(ad.add (j * 8)).block, (ad.add (j * 8)).off + 5, none⟩ = some (.int .i64 x.f5) := by rw [← add_field _ _ 5 (by omega)]; exact pw_cell_below HB.out (hrow 5 _ rfl)
      have q6 : wo.cell? ⟨(ad.add (j * 8)).block, (ad.add (j * 8)).off + 6, none⟩ = some (.int .i64 x.f6) := by rw [← add_field _ _ 6 (by omega)]; exact pw_cell_below HB.out (hrow 6 _ rfl)
      have q7 : wo.cell? ⟨(ad.add (j * 8)).block, (ad.add (j * 8)).off + 7, none⟩ = some (.slice A7 x.f7.length c7) := by rw [← add_field _ _ 7 (by omega)]; exact pw_cell_below HB.out (hrow 7 _ rfl)
      clear hrow h7 hC7
      cases hok : okX x with
      | false =>
        have HCK : Aside0 (checkOf x = 180) := ⟨by rw [checkOf_ok, hok]; rfl⟩
        have HPR := Aside0.mk (print_bad l j x hx hok)
        clear hok hx
        go_wp2_with (go_at_call 10; refine (chk_any x A7 c7 _ (Kd.C_below HC7.out (HB.out.trans ((below_alloc (Below.refl _ wo) _).mono HB.out.size))) H7.out).mono ?_; rw [HCK.out]; rintro e w1 ⟨rfl, hb⟩; have HE := Aside0.mk (HB.out.trans (((below_alloc (Below.refl _ wo) (.cells (evC x (.slice A7 x.f7.length c7)) 24)).trans (hb.mono (by rw [size_alloc]; exact Nat.le_succ _))).mono HB.out.size)); clear hb)
        go_ret2
        exact ⟨ret_print (a := (⟨#[]⟩, 180)) HPR.out.symm, HE.out⟩
      | true =>
        have HCK : Aside0 (checkOf x = 0) := ⟨by rw [checkOf_ok, hok]; rfl⟩
        have HTX : Aside0 (textOf (l.take (j + 1)) = textOf (l.take j) ++ lineB (wordsX x)) := ⟨by rw [List.take_add_one, hx]; exact textOf_snoc _ _⟩
        have HSZ : Aside0 ((textOf (l.take j)).size + (lineB (wordsX x)).size ≤ 140737488355328) := ⟨by
          have h1 := textOf_size (l.take (j + 1)) (l.drop (j + 1))
          rw [List.take_append_drop, HTX.out, size_append] at h1
          have := HS.out
          omega⟩
        have HWL0 : Aside0 ((wordsX x).length ≤ 1099511627776) := ⟨by
          have h1 := textOf_size (l.take (j + 1)) (l.drop (j + 1))
          rw [List.take_append_drop, HTX.out, size_append] at h1
          have := HS.out
          have := words_len (wordsX x)
          omega⟩
        have HALL : Aside0 (∀ y ∈ l.take (j + 1), okX y = true) := ⟨fun y hy => by
          rw [List.take_add_one, hx] at hy
          simp only [Option.toList_some, List.mem_append, List.mem_singleton] at hy
          rcases hy with hy | rfl
          · exact HAL.out y hy
          · exact hok⟩
        have HOK := Aside0.mk hok
        obtain ⟨k, hk1, hk2, hkk⟩ := ok_kind x hok
        have HK1 := Aside0.mk hk1
        have HK2 := Aside0.mk hk2
        have HKK := Aside0.mk hkk
        have HKN : Aside0 (x.f0.toNat = k) := ⟨by rw [hkk]; exact Int.toNat_natCast k⟩
        have HWL : Aside0 ((wordsK k x).length ≤ 1099511627776) := ⟨by have := HWL0.out; unfold wordsX at this; rwa [HKN.out] at this⟩
        clear hx hok hk1 hk2 hkk HWL0
        rcases cls_of k with hcl | hcl | hcl
        · have HCL := Aside0.mk hcl
          clear hcl
          go_upto_region 9 with (first | (go_at_call 10; refine (chk_any x A7 c7 _ (Kd.C_below HC7.out (HB.out.trans ((below_alloc (Below.refl _ wo) _).mono HB.out.size))) H7.out).mono ?_; rw [HCK.out]; rintro e w1 ⟨rfl, hb⟩; have BE := Aside0.mk (blk_below (heap_alloc_new wo (.cells (evC x (.slice A7 x.f7.length c7)) 24)) hb); have HE := Aside0.mk ((below_alloc (Below.refl _ wo) (.cells (evC x (.slice A7 x.f7.length c7)) 24)).trans (hb.mono (by rw [size_alloc]; exact Nat.le_succ _))); clear hb) | (go_at_call 23; refine (form_c0 k HK1.out HK2.out HCL.out wo.heap.size x (.slice A7 x.f7.length c7) _ HKK.out BE.out).mono ?_; rintro e w2 ⟨_, rfl, ⟨AF, rfl, hF⟩, hb⟩; have FF := Aside0.mk hF; have n1_ := Aside0.mk (blk_below BE.out hb); have n2_ := Aside0.mk (HE.out.trans (hb.mono HE.out.size)); clear BE HE; have BE := n1_; have HE := n2_; clear n1_ n2_ hF hb))
          have BF := Aside0.mk (heap_alloc_new w2 (.cells #[.string (wordB k), .slice AF (foK k).length (foK k).length, .pointer none, .slice none 0 0, .pointer none, .bool (liK k)] 48))
          have n1_ := Aside0.mk (blk_below BE.out (bel1 w2 (.cells #[.string (wordB k), .slice AF (foK k).length (foK k).length, .pointer none, .slice none 0 0, .pointer none, .bool (liK k)] 48)))
          have HZ0 := Aside0.mk (HE.out.trans ((bel1 w2 (.cells #[.string (wordB k), .slice AF (foK k).length (foK k).length, .pointer none, .slice none 0 0, .pointer none, .bool (liK k)] 48)).mono HE.out.size))
          have n2_ : Aside0 (∀ (j o : Nat), (foK k)[j]? = some o → ∃ ad, AF = some ad ∧ (w2.alloc (.cells #[.string (wordB k), .slice AF (foK k).length (foK k).length, .pointer none, .slice none 0 0, .pointer none, .bool (liK k)] 48)).cell? (ad.add j) = some (.pointer (some ⟨wo.heap.size, o, none⟩))) := ⟨fun j o hj => by obtain ⟨ad, h1, _, h2⟩ := FF.out j o hj; exact ⟨ad, h1, pw_cell_below (bel1 w2 _) h2⟩⟩
          clear FF BE
          generalize w2.heap.size = g8 at BF ⊢
          generalize w2.alloc (.cells #[.string (wordB k), .slice AF (foK k).length (foK k).length, .pointer none, .slice none 0 0, .pointer none, .bool (liK k)] 48) = wz at *
          have HZ := Aside0.mk (HB.out.trans (HZ0.out.mono HB.out.size))
          have BE := n1_
          have FF := n2_
          clear n1_ n2_ HE
          have y0 : wz.cell? ⟨g8, 0, none⟩ = some (.string (wordB k)) := (blk_cell BF.out 0).trans rfl
          go_wp2_with (first | ((with_reducible refine gate_dst (N := 32) rfl ?_); refine Kd.R_lit Kd.string (w0 := wz) wz.heap.size 9 ?hg (N := 32) ?hd (xs := [wordB k]) (inner := [.string (wordB k)]) (ok := fun _ => True) (okp := fun _ => True) ?hr ?hp (fun _ hk => hk) trivial ?hb ?hs (by simp) ?_; (case hd => rfl); (case hg => rfl); (case hr => first | (go_simp; done) | (go_simp; rfl)); (case hp => exact (Reps.one (show Kd.M Kd.string _ _ _ (wordB k) [.string (wordB k)] from rfl) (Reps.none _ _))); (case hb => exact Below.refl _ _); (case hs => exact Nat.le_refl _); intro v0 w3 ho hb hg_ hat_; clear hg_ hat_; have HO := Aside0.mk ho; have HB1 := Aside0.mk hb; clear ho hb; have y1 : w3.cell? ⟨g8, 1, none⟩ = some (.slice AF (foK k).length (foK k).length) := cell_keep BF.out HB1.out rfl))
          clear y0 y1
          go_loopw [10, 36] (fun v10 i wr => ∃ a : Nat, i = .int .i64 a ∧ a ≤ (foK k).length ∧ Aside0 (Kd.R Kd.string 9 wr wz.heap.size (fun _ => True) v10 (wordB k :: ((foK k).take a).map (fun o => itoaB (getK x o)))) ∧ Aside0 (Below wz.heap.size wz wr)) (fun _ i _ => (foK k).length - (intOf i).toNat)
          case atStart => exact ⟨0, rfl, by omega, HO, HB1⟩
          case round =>
            clear HO HB1
            obtain ⟨a, rfl, ha, HO, HB1⟩ := hrel
            have hfl := fo_len k
            by_cases hlt : a < (foK k).length
            · obtain ⟨o, ho⟩ : ∃ o, (foK k)[a]? = some o := ⟨_, List.getElem?_eq_getElem hlt⟩
              obtain ⟨ad1, rfl, hc1⟩ := FF.out a o ho
              have ho6 := fo_le k o (List.mem_of_getElem? ho)
              have x1 : wr.cell? (ad1.add a) = some (.pointer (some ⟨wo.heap.size, o, none⟩)) := pw_cell_below HB1.out hc1
              obtain ⟨n, hn⟩ : ∃ n, n = getK x o := ⟨_, rfl⟩
              have x2 : wr.cell? ⟨wo.heap.size, o, none⟩ = some (.int .i64 n) := cell_keep BE.out HB1.out (by rw [hn]; exact ev_get x _ o ho6.1 ho6.2)
              have HRG := Aside0.mk (hn ▸ HRX.out.1 o ho6.2)
              have HT2 : Aside0 (wordB k :: ((foK k).take (a + 1)).map (fun o => itoaB (getK x o)) = (wordB k :: ((foK k).take a).map (fun o => itoaB (getK x o))) ++ [itoaB n]) := ⟨by rw [take_next _ _ a o ho, hn]; rfl⟩
              have HTL : Aside0 (((wordB k :: ((foK k).take a).map (fun o => itoaB (getK x o))).length + 1) * 16 ≤ 140737488355328) := ⟨by rw [List.length_cons, List.length_map, List.length_take]; omega⟩
              clear hc1 ho ho6 hn
              go_wp2_with (first
                | (go_at_call 32; refine (itoa_any (n) HRG.out _ (HL.out.below (HZ.out.trans (HB1.out.mono HZ.out.size)))).mono ?_; rintro e w3 ⟨rfl, hb⟩; have n1_ := Aside0.mk (Kd.R_below HO.out hb); have n3_ := Aside0.mk (below_then HB1.out HB1.out.size hb); clear HO HB1 hb; have HO := n1_; have HB1 := n3_; clear n1_ n3_)
                | ((with_reducible refine gate_builtin (b := .append) (xs := #[.tmp 40, .tmp 45]) rfl ?_); at_builtin; refine Kd.R_append Kd.string (w0 := wz) wz.heap.size rfl (.tmp 40) (.tmp 45) 46 9 (.string ⟨#[]⟩) 16 rfl Tryd.underlying46 info9 rfl (by decide) (by omega) u10 (wordB k :: ((foK k).take a).map (fun o => itoaB (getK x o))) (itoaB n) [.string (itoaB n)] (fun _ => True) (fun _ => False) rfl rfl ?aP (fun _ hk => hk.elim) ?aF ?aO ?aB ?aS ?aL ?_; (case aP => exact rfl); (case aB => exact HB1.out); (case aF => exact (fun _ _ => trivial)); (case aO => exact HO.out); (case aS => exact HB1.out.size); (case aL => exact HTL.out); intro v7 w7 ho hb hg_ hat_; clear hg_ hat_; have n1_ : Aside0 (Kd.R Kd.string 9 w7 wz.heap.size (fun _ => True) v7 (wordB k :: ((foK k).take a).map (fun o => itoaB (getK x o)) ++ [itoaB n])) := ⟨ho⟩; have n3_ := Aside0.mk hb; clear HO HB1 ho hb; have HO := n1_; have HB1 := n3_; clear n1_ n3_))
              go_roundw
              case rel => exact ⟨a + 1, by go_num, by omega, by rw [HT2.out]; exact HO, HB1⟩
              case measure => simp [intOf]; omega
            · obtain rfl : a = (foK k).length := by omega
              rw [List.take_length] at HO
              clear hlt ha
              have HO0 : Aside0 (Kd.R Kd.string 9 wr wz.heap.size (fun _ => True) u10 (wordsF k x)) := HO
              clear HO
              have HO := HO0
              clear HO0
              have z2 : wr.cell? ⟨g8, 2, none⟩ = some (.pointer none) := cell_keep BF.out HB1.out rfl
              have z3 : wr.cell? ⟨g8, 3, none⟩ = some (.slice none 0 0) := cell_keep BF.out HB1.out rfl
              have hu46 := Tryd.underlying46
              have e7 : wr.cell? ⟨wo.heap.size, 7, none⟩ = some (.slice A7 x.f7.length c7) := cell_keep BE.out HB1.out rfl
              have HM : Aside0 (wordsM k x = []) := ⟨by unfold wordsM; rw [HCL.out]; rfl⟩
              have HO0 : Aside0 (Kd.R Kd.string 9 wr wz.heap.size (fun _ => True) u10 (wordsF k x ++ wordsM k x)) := ⟨by rw [HM.out, List.append_nil]; exact HO.out⟩
              clear HO
              have HO := HO0
              clear HO0
              go_wp2_with (fail)
              go_loopw [10, 78] (fun v10 i wr => ∃ a : Nat, i = .int .i64 a ∧ a ≤ x.f7.length ∧ Aside0 (Kd.R Kd.string 9 wr wz.heap.size (fun _ => True) v10 (wordsF k x ++ wordsM k x ++ (x.f7.take a).map itoaB)) ∧ Aside0 (Below wz.heap.size wz wr)) (fun _ i _ => x.f7.length - (intOf i).toNat)
              case atStart => exact ⟨0, rfl, by omega, ⟨by simpa using HO.out⟩, HB1⟩
              case round =>
                clear HO HB1
                obtain ⟨a, rfl, ha, HO, HB1⟩ := hrel
                have h7m := HC7.out.2.1
                by_cases hlt : a < x.f7.length
                · obtain ⟨n, hn⟩ : ∃ n, x.f7[a]? = some n := ⟨_, List.getElem?_eq_getElem hlt⟩
                  obtain ⟨ad7, rfl, hc1⟩ := num_at (Kd.C_below HC7.out HZ.out) a n hn
                  have x1 : wr.cell? (ad7.add a) = some (.int .i64 n) := pw_cell_below HB1.out hc1
                  have HRG := Aside0.mk (HRX.out.2 n (List.mem_of_getElem? hn))
                  have HT2 : Aside0 (wordsF k x ++ wordsM k x ++ (x.f7.take (a + 1)).map itoaB = (wordsF k x ++ wordsM k x ++ (x.f7.take a).map itoaB) ++ [itoaB n]) := ⟨by rw [take_next _ _ a n hn, List.append_assoc (wordsF k x ++ wordsM k x)]⟩
                  have HTL : Aside0 (((wordsF k x ++ wordsM k x ++ (x.f7.take a).map itoaB).length + 1) * 16 ≤ 140737488355328) := ⟨by have h1 := HWL.out; rw [wordsK, List.length_append, List.length_map] at h1; rw [List.length_append, List.length_map, List.length_take]; omega⟩
                  clear hc1 hn
                  go_wp2_with (first
                    | (go_at_call 32; refine (itoa_any (n) HRG.out _ (HL.out.below (HZ.out.trans (HB1.out.mono HZ.out.size)))).mono ?_; rintro e w3 ⟨rfl, hb⟩; have n1_ := Aside0.mk (Kd.R_below HO.out hb); have n3_ := Aside0.mk (below_then HB1.out HB1.out.size hb); clear HO HB1 hb; have HO := n1_; have HB1 := n3_; clear n1_ n3_)
                    | ((with_reducible refine gate_builtin (b := .append) (xs := #[.tmp 82, .tmp 85]) rfl ?_); at_builtin; refine Kd.R_append Kd.string (w0 := wz) wz.heap.size rfl (.tmp 82) (.tmp 85) 46 9 (.string ⟨#[]⟩) 16 rfl Tryd.underlying46 info9 rfl (by decide) (by omega) u10 (wordsF k x ++ wordsM k x ++ (x.f7.take a).map itoaB) (itoaB n) [.string (itoaB n)] (fun _ => True) (fun _ => False) rfl rfl ?aP (fun _ hk => hk.elim) ?aF ?aO ?aB ?aS ?aL ?_; (case aP => exact rfl); (case aB => exact HB1.out); (case aF => exact (fun _ _ => trivial)); (case aO => exact HO.out); (case aS => exact HB1.out.size); (case aL => exact HTL.out); intro v7 w7 ho hb hg_ hat_; clear hg_ hat_; have n1_ : Aside0 (Kd.R Kd.string 9 w7 wz.heap.size (fun _ => True) v7 (wordsF k x ++ wordsM k x ++ (x.f7.take a).map itoaB ++ [itoaB n])) := ⟨ho⟩; have n3_ := Aside0.mk hb; clear HO HB1 ho hb; have HO := n1_; have HB1 := n3_; clear n1_ n3_))
                  go_roundw
                  case rel => exact ⟨a + 1, by go_num, by omega, by rw [HT2.out]; exact HO, HB1⟩
                  case measure => simp [intOf]; omega
                · obtain rfl : a = x.f7.length := by omega
                  rw [List.take_length] at HO
                  clear hlt ha
                  have HOW : Aside0 (Kd.R Kd.string 9 wr wz.heap.size (fun _ => True) u10 (wordsX x)) := ⟨by unfold wordsX; rw [HKN.out]; exact HO.out⟩
                  have HBL2 : Aside0 (Lib.IsBuilder 61 5 w.heap.size w.heap.size (Lib.strCells (textOf (l.take j))) wr) := ⟨builder_below HBL.out (HZ0.out.trans (HB1.out.mono HZ0.out.size))⟩
                  go_wp2_with (go_at_call 33; refine (put_any w.heap.size (textOf (l.take j)) (wordsX x) _ HBL2.out HOW.out (by unfold wordsX wordsK wordsF; simp) HSZ.out (HZ.out.trans (HB1.out.mono HZ.out.size)).size).mono ?_; rintro e w9 ⟨rfl, h9, hb⟩; have BL9 := Aside0.mk h9; have HB9 := Aside0.mk ((HZ.out.trans (HB1.out.mono HZ.out.size)).trans hb); clear h9 hb)
                  go_roundw
                  case rel => exact ⟨j + 1, by go_num, by omega, ⟨by rw [HTX.out]; exact BL9.out⟩, HB9, HALL⟩
                  case measure => simp [intOf]; omega
        · have HCL := Aside0.mk hcl
          clear hcl
          go_upto_region 9 with (first | (go_at_call 10; refine (chk_any x A7 c7 _ (Kd.C_below HC7.out (HB.out.trans ((below_alloc (Below.refl _ wo) _).mono HB.out.size))) H7.out).mono ?_; rw [HCK.out]; rintro e w1 ⟨rfl, hb⟩; have BE := Aside0.mk (blk_below (heap_alloc_new wo (.cells (evC x (.slice A7 x.f7.length c7)) 24)) hb); have HE := Aside0.mk ((below_alloc (Below.refl _ wo) (.cells (evC x (.slice A7 x.f7.length c7)) 24)).trans (hb.mono (by rw [size_alloc]; exact Nat.le_succ _))); clear hb) | (go_at_call 23; refine (form_c1 k HK1.out HK2.out HCL.out wo.heap.size x (.slice A7 x.f7.length c7) _ HKK.out BE.out).mono ?_; rintro e w2 ⟨_, rfl, ⟨AF, rfl, hF⟩, hb⟩; have FF := Aside0.mk hF; have n1_ := Aside0.mk (blk_below BE.out hb); have n2_ := Aside0.mk (HE.out.trans (hb.mono HE.out.size)); clear BE HE; have BE := n1_; have HE := n2_; clear n1_ n2_ hF hb))
          have BF := Aside0.mk (heap_alloc_new w2 (.cells #[.string (wordB k), .slice AF (foK k).length (foK k).length, .pointer (some ⟨wo.heap.size, 6, none⟩), .slice none 0 0, .pointer none, .bool false] 48))
          have n1_ := Aside0.mk (blk_below BE.out (bel1 w2 (.cells #[.string (wordB k), .slice AF (foK k).length (foK k).length, .pointer (some ⟨wo.heap.size, 6, none⟩), .slice none 0 0, .pointer none, .bool false] 48)))
          have HZ0 := Aside0.mk (HE.out.trans ((bel1 w2 (.cells #[.string (wordB k), .slice AF (foK k).length (foK k).length, .pointer (some ⟨wo.heap.size, 6, none⟩), .slice none 0 0, .pointer none, .bool false] 48)).mono HE.out.size))
          have n2_ : Aside0 (∀ (j o : Nat), (foK k)[j]? = some o → ∃ ad, AF = some ad ∧ (w2.alloc (.cells #[.string (wordB k), .slice AF (foK k).length (foK k).length, .pointer (some ⟨wo.heap.size, 6, none⟩), .slice none 0 0, .pointer none, .bool false] 48)).cell? (ad.add j) = some (.pointer (some ⟨wo.heap.size, o, none⟩))) := ⟨fun j o hj => by obtain ⟨ad, h1, _, h2⟩ := FF.out j o hj; exact ⟨ad, h1, pw_cell_below (bel1 w2 _) h2⟩⟩
          clear FF BE
          generalize w2.heap.size = g8 at BF ⊢
          generalize w2.alloc (.cells #[.string (wordB k), .slice AF (foK k).length (foK k).length, .pointer (some ⟨wo.heap.size, 6, none⟩), .slice none 0 0, .pointer none, .bool false] 48) = wz at *
          have HZ := Aside0.mk (HB.out.trans (HZ0.out.mono HB.out.size))
          have BE := n1_
          have FF := n2_
          clear n1_ n2_ HE
          have y0 : wz.cell? ⟨g8, 0, none⟩ = some (.string (wordB k)) := (blk_cell BF.out 0).trans rfl
          go_wp2_with (first | ((with_reducible refine gate_dst (N := 32) rfl ?_); refine Kd.R_lit Kd.string (w0 := wz) wz.heap.size 9 ?hg (N := 32) ?hd (xs := [wordB k]) (inner := [.string (wordB k)]) (ok := fun _ => True) (okp := fun _ => True) ?hr ?hp (fun _ hk => hk) trivial ?hb ?hs (by simp) ?_; (case hd => rfl); (case hg => rfl); (case hr => first | (go_simp; done) | (go_simp; rfl)); (case hp => exact (Reps.one (show Kd.M Kd.string _ _ _ (wordB k) [.string (wordB k)] from rfl) (Reps.none _ _))); (case hb => exact Below.refl _ _); (case hs => exact Nat.le_refl _); intro v0 w3 ho hb hg_ hat_; clear hg_ hat_; have HO := Aside0.mk ho; have HB1 := Aside0.mk hb; clear ho hb; have y1 : w3.cell? ⟨g8, 1, none⟩ = some (.slice AF (foK k).length (foK k).length) := cell_keep BF.out HB1.out rfl))
          clear y0 y1
          go_loopw [10, 36] (fun v10 i wr => ∃ a : Nat, i = .int .i64 a ∧ a ≤ (foK k).length ∧ Aside0 (Kd.R Kd.string 9 wr wz.heap.size (fun _ => True) v10 (wordB k :: ((foK k).take a).map (fun o => itoaB (getK x o)))) ∧ Aside0 (Below wz.heap.size wz wr)) (fun _ i _ => (foK k).length - (intOf i).toNat)
          case atStart => exact ⟨0, rfl, by omega, HO, HB1⟩
          case round =>
            clear HO HB1
            obtain ⟨a, rfl, ha, HO, HB1⟩ := hrel
            have hfl := fo_len k
            by_cases hlt : a < (foK k).length
            · obtain ⟨o, ho⟩ : ∃ o, (foK k)[a]? = some o := ⟨_, List.getElem?_eq_getElem hlt⟩
              obtain ⟨ad1, rfl, hc1⟩ := FF.out a o ho
              have ho6 := fo_le k o (List.mem_of_getElem? ho)
              have x1 : wr.cell? (ad1.add a) = some (.pointer (some ⟨wo.heap.size, o, none⟩)) := pw_cell_below HB1.out hc1
              obtain ⟨n, hn⟩ : ∃ n, n = getK x o := ⟨_, rfl⟩
              have x2 : wr.cell? ⟨wo.heap.size, o, none⟩ = some (.int .i64 n) := cell_keep BE.out HB1.out (by rw [hn]; exact ev_get x _ o ho6.1 ho6.2)
              have HRG := Aside0.mk (hn ▸ HRX.out.1 o ho6.2)
              have HT2 : Aside0 (wordB k :: ((foK k).take (a + 1)).map (fun o => itoaB (getK x o)) = (wordB k :: ((foK k).take a).map (fun o => itoaB (getK x o))) ++ [itoaB n]) := ⟨by rw [take_next _ _ a o ho, hn]; rfl⟩
              have HTL : Aside0 (((wordB k :: ((foK k).take a).map (fun o => itoaB (getK x o))).length + 1) * 16 ≤ 140737488355328) := ⟨by rw [List.length_cons, List.length_map, List.length_take]; omega⟩
              clear hc1 ho ho6 hn
              go_wp2_with (first
                | (go_at_call 32; refine (itoa_any (n) HRG.out _ (HL.out.below (HZ.out.trans (HB1.out.mono HZ.out.size)))).mono ?_; rintro e w3 ⟨rfl, hb⟩; have n1_ := Aside0.mk (Kd.R_below HO.out hb); have n3_ := Aside0.mk (below_then HB1.out HB1.out.size hb); clear HO HB1 hb; have HO := n1_; have HB1 := n3_; clear n1_ n3_)
                | ((with_reducible refine gate_builtin (b := .append) (xs := #[.tmp 40, .tmp 45]) rfl ?_); at_builtin; refine Kd.R_append Kd.string (w0 := wz) wz.heap.size rfl (.tmp 40) (.tmp 45) 46 9 (.string ⟨#[]⟩) 16 rfl Tryd.underlying46 info9 rfl (by decide) (by omega) u10 (wordB k :: ((foK k).take a).map (fun o => itoaB (getK x o))) (itoaB n) [.string (itoaB n)] (fun _ => True) (fun _ => False) rfl rfl ?aP (fun _ hk => hk.elim) ?aF ?aO ?aB ?aS ?aL ?_; (case aP => exact rfl); (case aB => exact HB1.out); (case aF => exact (fun _ _ => trivial)); (case aO => exact HO.out); (case aS => exact HB1.out.size); (case aL => exact HTL.out); intro v7 w7 ho hb hg_ hat_; clear hg_ hat_; have n1_ : Aside0 (Kd.R Kd.string 9 w7 wz.heap.size (fun _ => True) v7 (wordB k :: ((foK k).take a).map (fun o => itoaB (getK x o)) ++ [itoaB n])) := ⟨ho⟩; have n3_ := Aside0.mk hb; clear HO HB1 ho hb; have HO := n1_; have HB1 := n3_; clear n1_ n3_))
              go_roundw
              case rel => exact ⟨a + 1, by go_num, by omega, by rw [HT2.out]; exact HO, HB1⟩
              case measure => simp [intOf]; omega
            · obtain rfl : a = (foK k).length := by omega
              rw [List.take_length] at HO
              clear hlt ha
              have HO0 : Aside0 (Kd.R Kd.string 9 wr wz.heap.size (fun _ => True) u10 (wordsF k x)) := HO
              clear HO
              have HO := HO0
              clear HO0
              have z2 : wr.cell? ⟨g8, 2, none⟩ = some (.pointer (some ⟨wo.heap.size, 6, none⟩)) := cell_keep BF.out HB1.out rfl
              have z3 : wr.cell? ⟨g8, 3, none⟩ = some (.slice none 0 0) := cell_keep BF.out HB1.out rfl
              have hu46 := Tryd.underlying46
              have e7 : wr.cell? ⟨wo.heap.size, 7, none⟩ = some (.slice A7 x.f7.length c7) := cell_keep BE.out HB1.out rfl
              have HM : Aside0 (wordsM k x = [itoaB x.f6]) := ⟨by unfold wordsM; rw [HCL.out]; rfl⟩
              have HTL : Aside0 (((wordsF k x).length + 1) * 16 ≤ 140737488355328) := ⟨by unfold wordsF; rw [List.length_cons, List.length_map]; omega⟩
              have x6 : wr.cell? ⟨wo.heap.size, 6, none⟩ = some (.int .i64 x.f6) := cell_keep BE.out HB1.out rfl
              obtain ⟨n6, hn6⟩ : ∃ n, n = x.f6 := ⟨_, rfl⟩
              rw [← hn6] at x6
              have HN6 := Aside0.mk hn6
              have HRG : Aside0 (-9223372036854775808 ≤ n6 ∧ n6 ≤ 9223372036854775807) := ⟨hn6 ▸ HRX.out.1 6 (by omega)⟩
              clear hn6
              go_wp2_with (first
                | (go_at_call 32; refine (itoa_any (n6) HRG.out _ (HL.out.below (HZ.out.trans (HB1.out.mono HZ.out.size)))).mono ?_; rintro e w3 ⟨rfl, hb⟩; have n1_ := Aside0.mk (Kd.R_below HO.out hb); have n3_ := Aside0.mk (below_then HB1.out HB1.out.size hb); clear HO HB1 hb; have HO := n1_; have HB1 := n3_; clear n1_ n3_)
                | ((with_reducible refine gate_builtin (b := .append) (xs := #[.tmp 52, .tmp 58]) rfl ?_); at_builtin; refine Kd.R_append Kd.string (w0 := wz) wz.heap.size rfl (.tmp 52) (.tmp 58) 46 9 (.string ⟨#[]⟩) 16 rfl Tryd.underlying46 info9 rfl (by decide) (by omega) u10 (wordsF k x) (itoaB n6) [.string (itoaB n6)] (fun _ => True) (fun _ => False) rfl rfl ?aP (fun _ hk => hk.elim) ?aF ?aO ?aB ?aS ?aL ?_; (case aP => exact rfl); (case aB => exact HB1.out); (case aF => exact (fun _ _ => trivial)); (case aO => exact HO.out); (case aS => exact HB1.out.size); (case aL => exact HTL.out); intro v7 w7 ho hb hg_ hat_; clear hg_ hat_; have n1_ : Aside0 (Kd.R Kd.string 9 w7 wz.heap.size (fun _ => True) v7 (wordsF k x ++ [itoaB n6])) := ⟨ho⟩; have n3_ := Aside0.mk hb; clear HO HB1 ho hb; have HO := n1_; have HB1 := n3_; clear n1_ n3_; have e8 : w7.cell? ⟨wo.heap.size, 7, none⟩ = some (.slice A7 x.f7.length c7) := cell_keep BE.out HB1.out rfl))
              have HO0 : Aside0 (Kd.R Kd.string 9 w7 wz.heap.size (fun _ => True) v7 (wordsF k x ++ wordsM k x)) := ⟨by rw [HM.out, ← HN6.out]; exact HO.out⟩
              clear HO
              have HO := HO0
              clear HO0
              go_loopw [10, 78] (fun v10 i wr => ∃ a : Nat, i = .int .i64 a ∧ a ≤ x.f7.length ∧ Aside0 (Kd.R Kd.string 9 wr wz.heap.size (fun _ => True) v10 (wordsF k x ++ wordsM k x ++ (x.f7.take a).map itoaB)) ∧ Aside0 (Below wz.heap.size wz wr)) (fun _ i _ => x.f7.length - (intOf i).toNat)
              case atStart => exact ⟨0, rfl, by omega, ⟨by simpa using HO.out⟩, HB1⟩
              case round =>
                clear HO HB1
                obtain ⟨a, rfl, ha, HO, HB1⟩ := hrel
                have h7m := HC7.out.2.1
                by_cases hlt : a < x.f7.length
                · obtain ⟨n, hn⟩ : ∃ n, x.f7[a]? = some n := ⟨_, List.getElem?_eq_getElem hlt⟩
                  obtain ⟨ad7, rfl, hc1⟩ := num_at (Kd.C_below HC7.out HZ.out) a n hn
                  have x1 : wr.cell? (ad7.add a) = some (.int .i64 n) := pw_cell_below HB1.out hc1
                  have HRG := Aside0.mk (HRX.out.2 n (List.mem_of_getElem? hn))
                  have HT2 : Aside0 (wordsF k x ++ wordsM k x ++ (x.f7.take (a + 1)).map itoaB = (wordsF k x ++ wordsM k x ++ (x.f7.take a).map itoaB) ++ [itoaB n]) := ⟨by rw [take_next _ _ a n hn, List.append_assoc (wordsF k x ++ wordsM k x)]⟩
                  have HTL : Aside0 (((wordsF k x ++ wordsM k x ++ (x.f7.take a).map itoaB).length + 1) * 16 ≤ 140737488355328) := ⟨by have h1 := HWL.out; rw [wordsK, List.length_append, List.length_map] at h1; rw [List.length_append, List.length_map, List.length_take]; omega⟩
                  clear hc1 hn
                  go_wp2_with (first
                    | (go_at_call 32; refine (itoa_any (n) HRG.out _ (HL.out.below (HZ.out.trans (HB1.out.mono HZ.out.size)))).mono ?_; rintro e w3 ⟨rfl, hb⟩; have n1_ := Aside0.mk (Kd.R_below HO.out hb); have n3_ := Aside0.mk (below_then HB1.out HB1.out.size hb); clear HO HB1 hb; have HO := n1_; have HB1 := n3_; clear n1_ n3_)
                    | ((with_reducible refine gate_builtin (b := .append) (xs := #[.tmp 82, .tmp 85]) rfl ?_); at_builtin; refine Kd.R_append Kd.string (w0 := wz) wz.heap.size rfl (.tmp 82) (.tmp 85) 46 9 (.string ⟨#[]⟩) 16 rfl Tryd.underlying46 info9 rfl (by decide) (by omega) u10 (wordsF k x ++ wordsM k x ++ (x.f7.take a).map itoaB) (itoaB n) [.string (itoaB n)] (fun _ => True) (fun _ => False) rfl rfl ?aP (fun _ hk => hk.elim) ?aF ?aO ?aB ?aS ?aL ?_; (case aP => exact rfl); (case aB => exact HB1.out); (case aF => exact (fun _ _ => trivial)); (case aO => exact HO.out); (case aS => exact HB1.out.size); (case aL => exact HTL.out); intro v7 w7 ho hb hg_ hat_; clear hg_ hat_; have n1_ : Aside0 (Kd.R Kd.string 9 w7 wz.heap.size (fun _ => True) v7 (wordsF k x ++ wordsM k x ++ (x.f7.take a).map itoaB ++ [itoaB n])) := ⟨ho⟩; have n3_ := Aside0.mk hb; clear HO HB1 ho hb; have HO := n1_; have HB1 := n3_; clear n1_ n3_))
                  go_roundw
                  case rel => exact ⟨a + 1, by go_num, by omega, by rw [HT2.out]; exact HO, HB1⟩
                  case measure => simp [intOf]; omega
                · obtain rfl : a = x.f7.length := by omega
                  rw [List.take_length] at HO
                  clear hlt ha
                  have HOW : Aside0 (Kd.R Kd.string 9 wr wz.heap.size (fun _ => True) u10 (wordsX x)) := ⟨by unfold wordsX; rw [HKN.out]; exact HO.out⟩
                  have HBL2 : Aside0 (Lib.IsBuilder 61 5 w.heap.size w.heap.size (Lib.strCells (textOf (l.take j))) wr) := ⟨builder_below HBL.out (HZ0.out.trans (HB1.out.mono HZ0.out.size))⟩
                  go_wp2_with (go_at_call 33; refine (put_any w.heap.size (textOf (l.take j)) (wordsX x) _ HBL2.out HOW.out (by unfold wordsX wordsK wordsF; simp) HSZ.out (HZ.out.trans (HB1.out.mono HZ.out.size)).size).mono ?_; rintro e w9 ⟨rfl, h9, hb⟩; have BL9 := Aside0.mk h9; have HB9 := Aside0.mk ((HZ.out.trans (HB1.out.mono HZ.out.size)).trans hb); clear h9 hb)
                  go_roundw
                  case rel => exact ⟨j + 1, by go_num, by omega, ⟨by rw [HTX.out]; exact BL9.out⟩, HB9, HALL⟩
                  case measure => simp [intOf]; omega
        · have HCL := Aside0.mk hcl
          clear hcl
          go_upto_region 9 with (first | (go_at_call 10; refine (chk_any x A7 c7 _ (Kd.C_below HC7.out (HB.out.trans ((below_alloc (Below.refl _ wo) _).mono HB.out.size))) H7.out).mono ?_; rw [HCK.out]; rintro e w1 ⟨rfl, hb⟩; have BE := Aside0.mk (blk_below (heap_alloc_new wo (.cells (evC x (.slice A7 x.f7.length c7)) 24)) hb); have HE := Aside0.mk ((below_alloc (Below.refl _ wo) (.cells (evC x (.slice A7 x.f7.length c7)) 24)).trans (hb.mono (by rw [size_alloc]; exact Nat.le_succ _))); clear hb) | (go_at_call 23; refine (form_c2 k HK1.out HK2.out HCL.out wo.heap.size x (.slice A7 x.f7.length c7) _ HKK.out BE.out).mono ?_; rintro e w2 ⟨_, bW, rfl, ⟨AF, rfl, hF⟩, hW, hb⟩; have BW := Aside0.mk hW; clear hW; have FF := Aside0.mk hF; have n1_ := Aside0.mk (blk_below BE.out hb); have n2_ := Aside0.mk (HE.out.trans (hb.mono HE.out.size)); clear BE HE; have BE := n1_; have HE := n2_; clear n1_ n2_ hF hb))
          have BF := Aside0.mk (heap_alloc_new w2 (.cells #[.string (wordB k), .slice AF (foK k).length (foK k).length, .pointer none, .slice (some ⟨bW, 0, none⟩) (wsK k).length (wsK k).length, .pointer (some ⟨wo.heap.size, 6, none⟩), .bool false] 48))
          have n1_ := Aside0.mk (blk_below BE.out (bel1 w2 (.cells #[.string (wordB k), .slice AF (foK k).length (foK k).length, .pointer none, .slice (some ⟨bW, 0, none⟩) (wsK k).length (wsK k).length, .pointer (some ⟨wo.heap.size, 6, none⟩), .bool false] 48)))
          have n3_ := Aside0.mk (blk_below BW.out (bel1 w2 (.cells #[.string (wordB k), .slice AF (foK k).length (foK k).length, .pointer none, .slice (some ⟨bW, 0, none⟩) (wsK k).length (wsK k).length, .pointer (some ⟨wo.heap.size, 6, none⟩), .bool false] 48)))
          clear BW
          have BW := n3_
          clear n3_
          have HZ0 := Aside0.mk (HE.out.trans ((bel1 w2 (.cells #[.string (wordB k), .slice AF (foK k).length (foK k).length, .pointer none, .slice (some ⟨bW, 0, none⟩) (wsK k).length (wsK k).length, .pointer (some ⟨wo.heap.size, 6, none⟩), .bool false] 48)).mono HE.out.size))
          have n2_ : Aside0 (∀ (j o : Nat), (foK k)[j]? = some o → ∃ ad, AF = some ad ∧ (w2.alloc (.cells #[.string (wordB k), .slice AF (foK k).length (foK k).length, .pointer none, .slice (some ⟨bW, 0, none⟩) (wsK k).length (wsK k).length, .pointer (some ⟨wo.heap.size, 6, none⟩), .bool false] 48)).cell? (ad.add j) = some (.pointer (some ⟨wo.heap.size, o, none⟩))) := ⟨fun j o hj => by obtain ⟨ad, h1, _, h2⟩ := FF.out j o hj; exact ⟨ad, h1, pw_cell_below (bel1 w2 _) h2⟩⟩
          clear FF BE
          generalize w2.heap.size = g8 at BF ⊢
          generalize w2.alloc (.cells #[.string (wordB k), .slice AF (foK k).length (foK k).length, .pointer none, .slice (some ⟨bW, 0, none⟩) (wsK k).length (wsK k).length, .pointer (some ⟨wo.heap.size, 6, none⟩), .bool false] 48) = wz at *
          have HZ := Aside0.mk (HB.out.trans (HZ0.out.mono HB.out.size))
          have BE := n1_
          have FF := n2_
          clear n1_ n2_ HE
          have y0 : wz.cell? ⟨g8, 0, none⟩ = some (.string (wordB k)) := (blk_cell BF.out 0).trans rfl
          go_wp2_with (first | ((with_reducible refine gate_dst (N := 32) rfl ?_); refine Kd.R_lit Kd.string (w0 := wz) wz.heap.size 9 ?hg (N := 32) ?hd (xs := [wordB k]) (inner := [.string (wordB k)]) (ok := fun _ => True) (okp := fun _ => True) ?hr ?hp (fun _ hk => hk) trivial ?hb ?hs (by simp) ?_; (case hd => rfl); (case hg => rfl); (case hr => first | (go_simp; done) | (go_simp; rfl)); (case hp => exact (Reps.one (show Kd.M Kd.string _ _ _ (wordB k) [.string (wordB k)] from rfl) (Reps.none _ _))); (case hb => exact Below.refl _ _); (case hs => exact Nat.le_refl _); intro v0 w3 ho hb hg_ hat_; clear hg_ hat_; have HO := Aside0.mk ho; have HB1 := Aside0.mk hb; clear ho hb; have y1 : w3.cell? ⟨g8, 1, none⟩ = some (.slice AF (foK k).length (foK k).length) := cell_keep BF.out HB1.out rfl))
          clear y0 y1
          go_loopw [10, 36] (fun v10 i wr => ∃ a : Nat, i = .int .i64 a ∧ a ≤ (foK k).length ∧ Aside0 (Kd.R Kd.string 9 wr wz.heap.size (fun _ => True) v10 (wordB k :: ((foK k).take a).map (fun o => itoaB (getK x o)))) ∧ Aside0 (Below wz.heap.size wz wr)) (fun _ i _ => (foK k).length - (intOf i).toNat)
          case atStart => exact ⟨0, rfl, by omega, HO, HB1⟩
          case round =>
            clear HO HB1
            obtain ⟨a, rfl, ha, HO, HB1⟩ := hrel
            have hfl := fo_len k
            by_cases hlt : a < (foK k).length
            · obtain ⟨o, ho⟩ : ∃ o, (foK k)[a]? = some o := ⟨_, List.getElem?_eq_getElem hlt⟩
              obtain ⟨ad1, rfl, hc1⟩ := FF.out a o ho
              have ho6 := fo_le k o (List.mem_of_getElem? ho)
              have x1 : wr.cell? (ad1.add a) = some (.pointer (some ⟨wo.heap.size, o, none⟩)) := pw_cell_below HB1.out hc1
              obtain ⟨n, hn⟩ : ∃ n, n = getK x o := ⟨_, rfl⟩
              have x2 : wr.cell? ⟨wo.heap.size, o, none⟩ = some (.int .i64 n) := cell_keep BE.out HB1.out (by rw [hn]; exact ev_get x _ o ho6.1 ho6.2)
              have HRG := Aside0.mk (hn ▸ HRX.out.1 o ho6.2)
              have HT2 : Aside0 (wordB k :: ((foK k).take (a + 1)).map (fun o => itoaB (getK x o)) = (wordB k :: ((foK k).take a).map (fun o => itoaB (getK x o))) ++ [itoaB n]) := ⟨by rw [take_next _ _ a o ho, hn]; rfl⟩
              have HTL : Aside0 (((wordB k :: ((foK k).take a).map (fun o => itoaB (getK x o))).length + 1) * 16 ≤ 140737488355328) := ⟨by rw [List.length_cons, List.length_map, List.length_take]; omega⟩
              clear hc1 ho ho6 hn
              go_wp2_with (first
                | (go_at_call 32; refine (itoa_any (n) HRG.out _ (HL.out.below (HZ.out.trans (HB1.out.mono HZ.out.size)))).mono ?_; rintro e w3 ⟨rfl, hb⟩; have n1_ := Aside0.mk (Kd.R_below HO.out hb); have n3_ := Aside0.mk (below_then HB1.out HB1.out.size hb); clear HO HB1 hb; have HO := n1_; have HB1 := n3_; clear n1_ n3_)
                | ((with_reducible refine gate_builtin (b := .append) (xs := #[.tmp 40, .tmp 45]) rfl ?_); at_builtin; refine Kd.R_append Kd.string (w0 := wz) wz.heap.size rfl (.tmp 40) (.tmp 45) 46 9 (.string ⟨#[]⟩) 16 rfl Tryd.underlying46 info9 rfl (by decide) (by omega) u10 (wordB k :: ((foK k).take a).map (fun o => itoaB (getK x o))) (itoaB n) [.string (itoaB n)] (fun _ => True) (fun _ => False) rfl rfl ?aP (fun _ hk => hk.elim) ?aF ?aO ?aB ?aS ?aL ?_; (case aP => exact rfl); (case aB => exact HB1.out); (case aF => exact (fun _ _ => trivial)); (case aO => exact HO.out); (case aS => exact HB1.out.size); (case aL => exact HTL.out); intro v7 w7 ho hb hg_ hat_; clear hg_ hat_; have n1_ : Aside0 (Kd.R Kd.string 9 w7 wz.heap.size (fun _ => True) v7 (wordB k :: ((foK k).take a).map (fun o => itoaB (getK x o)) ++ [itoaB n])) := ⟨ho⟩; have n3_ := Aside0.mk hb; clear HO HB1 ho hb; have HO := n1_; have HB1 := n3_; clear n1_ n3_))
              go_roundw
              case rel => exact ⟨a + 1, by go_num, by omega, by rw [HT2.out]; exact HO, HB1⟩
              case measure => simp [intOf]; omega
            · obtain rfl : a = (foK k).length := by omega
              rw [List.take_length] at HO
              clear hlt ha
              have HO0 : Aside0 (Kd.R Kd.string 9 wr wz.heap.size (fun _ => True) u10 (wordsF k x)) := HO
              clear HO
              have HO := HO0
              clear HO0
              have z2 : wr.cell? ⟨g8, 2, none⟩ = some (.pointer none) := cell_keep BF.out HB1.out rfl
              have z3 : wr.cell? ⟨g8, 3, none⟩ = some (.slice (some ⟨bW, 0, none⟩) (wsK k).length (wsK k).length) := cell_keep BF.out HB1.out rfl
              have hu46 := Tryd.underlying46
              have e7 : wr.cell? ⟨wo.heap.size, 7, none⟩ = some (.slice A7 x.f7.length c7) := cell_keep BE.out HB1.out rfl
              have x6 : wr.cell? ⟨wo.heap.size, 6, none⟩ = some (.int .i64 x.f6) := cell_keep BE.out HB1.out rfl
              have z4 : wr.cell? ⟨g8, 4, none⟩ = some (.pointer (some ⟨wo.heap.size, 6, none⟩)) := cell_keep BF.out HB1.out rfl
              have hn6 := ws_in k x HCL.out HOK.out HKK.out
              obtain ⟨n6, hn6e, hn6l⟩ : ∃ n : Nat, x.f6 = n ∧ n < (wsK k).length := ⟨x.f6.toNat, by omega, by omega⟩
              rw [hn6e] at x6
              clear hn6
              have HM : Aside0 (wordsM k x = [(wsK k).getD n6 ⟨#[]⟩]) := ⟨by unfold wordsM; rw [HCL.out, hn6e]; rfl⟩
              have xw : wr.cell? ⟨bW, n6, none⟩ = some (.string ((wsK k).getD n6 ⟨#[]⟩)) := cell_keep BW.out HB1.out (by simp [hn6l])
              have HTL : Aside0 (((wordsF k x).length + 1) * 16 ≤ 140737488355328) := ⟨by unfold wordsF; rw [List.length_cons, List.length_map]; omega⟩
              have HX6 : Aside0 ((evC x (.slice A7 x.f7.length c7))[6]? = some (.int .i64 (n6 : Int))) := ⟨by rw [← hn6e]; rfl⟩
              have HXW : Aside0 ((((wsK k).map Value.string).toArray)[n6]? = some (.string ((wsK k).getD n6 ⟨#[]⟩))) := ⟨by simp [hn6l]⟩
              have hwl := ws_len k
              generalize (wsK k).length = nw at *
              generalize (wsK k).getD n6 ⟨#[]⟩ = sw at *
              clear hn6e
              go_wp2_with (fail)
              go_region_held3 (fun X => X.cell? ⟨g8, 3, none⟩ = some (.slice (some ⟨bW, 0, none⟩) nw nw) ∧ X.cell? ⟨g8, 4, none⟩ = some (.pointer (some ⟨wo.heap.size, 6, none⟩)) ∧ X.cell? ⟨wo.heap.size, 6, none⟩ = some (.int .i64 (n6 : Int)) ∧ X.cell? ⟨bW, n6, none⟩ = some (.string sw)) (first | go_keep | exact ⟨cell_keep BF.out HB2.out rfl, cell_keep BF.out HB2.out rfl, cell_keep BE.out HB2.out HX6.out, cell_keep BW.out HB2.out HXW.out⟩)
                (first | (refine Kd.R_append_step Kd.string (w0 := wz) wz.heap.size (by rfl) (.tmp 64) (.tmp 73) 46 9 (.string ⟨#[]⟩) 16 (by rfl) Tryd.underlying46 info9 (by rfl) (by decide) (by omega) u10 (wordsF k x) sw [.string sw] (fun _ => True) (fun _ => False) (by rfl) (by rfl) rfl (fun _ hk => hk.elim) (fun _ _ => trivial) (Kd.R_below HO.out (below_drew (Below.refl _ _))) (HB1.out.drew) HB1.out.size HTL.out ?_; intro v7 w7 ho hb _ _; have HO2 := Aside0.mk ho; have HB2 := Aside0.mk hb; clear ho hb))
              clear HO HB1
              have HO := HO2
              have HB1 := HB2
              clear HO2 HB2
              have e8 : w7.cell? ⟨wo.heap.size, 7, none⟩ = some (.slice A7 x.f7.length c7) := cell_keep BE.out HB1.out rfl
              go_wp2_with (fail)
              have HO0 : Aside0 (Kd.R Kd.string 9 w7 wz.heap.size (fun _ => True) v7 (wordsF k x ++ wordsM k x)) := ⟨by rw [HM.out]; exact HO.out⟩
              clear HO
              have HO := HO0
              clear HO0
              go_loopw [10, 78] (fun v10 i wr => ∃ a : Nat, i = .int .i64 a ∧ a ≤ x.f7.length ∧ Aside0 (Kd.R Kd.string 9 wr wz.heap.size (fun _ => True) v10 (wordsF k x ++ wordsM k x ++ (x.f7.take a).map itoaB)) ∧ Aside0 (Below wz.heap.size wz wr)) (fun _ i _ => x.f7.length - (intOf i).toNat)
              case atStart => exact ⟨0, rfl, by omega, ⟨by simpa using HO.out⟩, HB1⟩
              case round =>
                clear HO HB1
                obtain ⟨a, rfl, ha, HO, HB1⟩ := hrel
                have h7m := HC7.out.2.1
                by_cases hlt : a < x.f7.length
                · obtain ⟨n, hn⟩ : ∃ n, x.f7[a]? = some n := ⟨_, List.getElem?_eq_getElem hlt⟩
                  obtain ⟨ad7, rfl, hc1⟩ := num_at (Kd.C_below HC7.out HZ.out) a n hn
                  have x1 : wr.cell? (ad7.add a) = some (.int .i64 n) := pw_cell_below HB1.out hc1
                  have HRG := Aside0.mk (HRX.out.2 n (List.mem_of_getElem? hn))
                  have HT2 : Aside0 (wordsF k x ++ wordsM k x ++ (x.f7.take (a + 1)).map itoaB = (wordsF k x ++ wordsM k x ++ (x.f7.take a).map itoaB) ++ [itoaB n]) := ⟨by rw [take_next _ _ a n hn, List.append_assoc (wordsF k x ++ wordsM k x)]⟩
                  have HTL : Aside0 (((wordsF k x ++ wordsM k x ++ (x.f7.take a).map itoaB).length + 1) * 16 ≤ 140737488355328) := ⟨by have h1 := HWL.out; rw [wordsK, List.length_append, List.length_map] at h1; rw [List.length_append, List.length_map, List.length_take]; omega⟩
                  clear hc1 hn
                  go_wp2_with (first
                    | (go_at_call 32; refine (itoa_any (n) HRG.out _ (HL.out.below (HZ.out.trans (HB1.out.mono HZ.out.size)))).mono ?_; rintro e w3 ⟨rfl, hb⟩; have n1_ := Aside0.mk (Kd.R_below HO.out hb); have n3_ := Aside0.mk (below_then HB1.out HB1.out.size hb); clear HO HB1 hb; have HO := n1_; have HB1 := n3_; clear n1_ n3_)
                    | ((with_reducible refine gate_builtin (b := .append) (xs := #[.tmp 82, .tmp 85]) rfl ?_); at_builtin; refine Kd.R_append Kd.string (w0 := wz) wz.heap.size rfl (.tmp 82) (.tmp 85) 46 9 (.string ⟨#[]⟩) 16 rfl Tryd.underlying46 info9 rfl (by decide) (by omega) u10 (wordsF k x ++ wordsM k x ++ (x.f7.take a).map itoaB) (itoaB n) [.string (itoaB n)] (fun _ => True) (fun _ => False) rfl rfl ?aP (fun _ hk => hk.elim) ?aF ?aO ?aB ?aS ?aL ?_; (case aP => exact rfl); (case aB => exact HB1.out); (case aF => exact (fun _ _ => trivial)); (case aO => exact HO.out); (case aS => exact HB1.out.size); (case aL => exact HTL.out); intro v7 w7 ho hb hg_ hat_; clear hg_ hat_; have n1_ : Aside0 (Kd.R Kd.string 9 w7 wz.heap.size (fun _ => True) v7 (wordsF k x ++ wordsM k x ++ (x.f7.take a).map itoaB ++ [itoaB n])) := ⟨ho⟩; have n3_ := Aside0.mk hb; clear HO HB1 ho hb; have HO := n1_; have HB1 := n3_; clear n1_ n3_))
                  go_roundw
                  case rel => exact ⟨a + 1, by go_num, by omega, by rw [HT2.out]; exact HO, HB1⟩
                  case measure => simp [intOf]; omega
                · obtain rfl : a = x.f7.length := by omega
                  rw [List.take_length] at HO
                  clear hlt ha
                  have HOW : Aside0 (Kd.R Kd.string 9 wr wz.heap.size (fun _ => True) u10 (wordsX x)) := ⟨by unfold wordsX; rw [HKN.out]; exact HO.out⟩
                  have HBL2 : Aside0 (Lib.IsBuilder 61 5 w.heap.size w.heap.size (Lib.strCells (textOf (l.take j))) wr) := ⟨builder_below HBL.out (HZ0.out.trans (HB1.out.mono HZ0.out.size))⟩
                  go_wp2_with (go_at_call 33; refine (put_any w.heap.size (textOf (l.take j)) (wordsX x) _ HBL2.out HOW.out (by unfold wordsX wordsK wordsF; simp) HSZ.out (HZ.out.trans (HB1.out.mono HZ.out.size)).size).mono ?_; rintro e w9 ⟨rfl, h9, hb⟩; have BL9 := Aside0.mk h9; have HB9 := Aside0.mk ((HZ.out.trans (HB1.out.mono HZ.out.size)).trans hb); clear h9 hb)
                  go_roundw
                  case rel => exact ⟨j + 1, by go_num, by omega, ⟨by rw [HTX.out]; exact BL9.out⟩, HB9, HALL⟩
                  case measure => simp [intOf]; omega
    · obtain rfl : j = l.length := by omega
      rw [List.take_length] at HBL HAL
      have HPR : Aside0 (printOf l = (textOf l, 0)) := ⟨by unfold printOf; rw [if_pos (List.all_eq_true.2 HAL.out)]⟩
      go_wp2_with (go_at_call 34; refine (Tryd.Builder_String_any w.heap.size w.heap.size (textOf l).data.toList _ HBL.out HB.out.size).mono ?_; rintro e w1 ⟨rfl, hb⟩; have HE := Aside0.mk (HB.out.trans hb); clear hb)
      go_ret2
      exact ⟨ret_print (a := (textOf l, 0)) HPR.out.symm, HE.out⟩
end Go.Proofs.YtiapfhlipoomaaaDoor.Given
end
section
namespace Go.Proofs.YtiapfhlipoomaaaDoor.Given
open Go.RowKit Go.Proofs.YtiapfhlipoomaaaDoorW.PrintWords Go.Proofs.YtiapfhlipoomaaaDoorW.PrintLast Go.Proofs.YtiapfhlipoomaaaDoorW.PrintMore Go.Proofs.YtiapfhlipoomaaaDoor.Print
set_option linter.unusedVariables false
set_option linter.unusedSimpArgs false
set_option maxRecDepth 100000 in
set_option maxHeartbeats 2000000 in
theorem number_yes (t : ByteArray) (v : Int) (h : numOf t = some v) (w : World) (hL : LW w) (hsz : t.size ≤ 281474976710656) :
    Calls Tryd.prog 58 #[.string t] w fun e w' => e = .returned (.tuple #[.int .i64 v, .bool true]) ∧ Below w.heap.size w w' := by
  have HV := Aside0.mk h
  have hq : ((itoaB v).toList == t.toList) = true := by simpa using (numOf_some h).2
  have HQ := Aside0.mk (numOf_some h).1
  have HL := Aside0.mk hL
  clear h hL
  go_enter Tryd.func58, Tryd.ntmps58
  go_wp2_with (first
    | (go_at_call 69; refine (atoi_good t v HV.out _ hsz).mono ?_; rintro e w2 ⟨rfl, hb⟩; have HB := Aside0.mk hb; clear hb)
    | (go_at_call 32; refine (itoa_any v HQ.out _ (HL.out.below HB.out)).mono ?_; rintro e w3 ⟨rfl, hb⟩; have n3_ := Aside0.mk (below_step HB.out hb); clear HB hb; have HB := n3_; clear n3_))
  go_ret2
  exact ⟨rfl, HB.out⟩
set_option maxRecDepth 100000 in
set_option maxHeartbeats 2000000 in
theorem number_no (t : ByteArray) (h : numOf t = none) (w : World) (hL : LW w) (hsz : t.size ≤ 281474976710656) :
    Calls Tryd.prog 58 #[.string t] w fun e w' => (∃ v : Int, e = .returned (.tuple #[.int .i64 v, .bool false])) ∧ Below w.heap.size w w' := by
  have HV := Aside0.mk h
  have HL := Aside0.mk hL
  clear h hL
  go_enter Tryd.func58, Tryd.ntmps58
  go_wp2_with (first
    | (go_at_call 69; refine (atoi_bad t HV.out _ HL.out hsz).mono ?_))
  rintro e w2 ⟨v, er, rfl, h, hb⟩
  have HB := Aside0.mk hb
  clear hb
  rcases h with ⟨a, rfl⟩ | ⟨rfl, hr, hq⟩
  · go_wp2
    go_ret2
    exact ⟨⟨_, rfl⟩, HB.out⟩
  · have HR := Aside0.mk hr
    clear hr
    go_wp2_with (first
      | (go_at_call 32; refine (itoa_any v HR.out _ (HL.out.below HB.out)).mono ?_; rintro e w3 ⟨rfl, hb⟩; have n3_ := Aside0.mk (below_step HB.out hb); clear HB hb; have HB := n3_; clear n3_))
    go_ret2
    exact ⟨⟨_, rfl⟩, HB.out⟩
end Go.Proofs.YtiapfhlipoomaaaDoor.Given
end
section
namespace Go.Proofs.YtiapfhlipoomaaaDoor.Given
open Go.RowKit Go.Proofs.YtiapfhlipoomaaaDoorW.PrintWords Go.Proofs.YtiapfhlipoomaaaDoorW.PrintLast Go.Proofs.YtiapfhlipoomaaaDoorW.PrintMore Go.Proofs.YtiapfhlipoomaaaDoor.Print
set_option linter.unusedVariables false
set_option linter.unusedSimpArgs false
def fillNums : List Nat → List ByteArray → S24 → Option (S24 × List ByteArray)
  | [], ws, x => some (x, ws)
  | _ :: _, [], _ => none
  | o :: r, t :: ws, x => match numOf t with
    | some n => fillNums r ws (setK x n o)
    | none => none
def idxB : List ByteArray → ByteArray → Nat → Int
  | [], _, _ => -1
  | a :: l, t, k => if t.toList = a.toList then (k : Int) else idxB l t (k + 1)
def fillWord (k : Nat) (p : S24 × List ByteArray) : Option (S24 × List ByteArray) :=
  if clsK k = 2 then match p.2 with
    | [] => none
    | t :: r => if t.toList = [] then none else some (setK p.1 (idxB (wsK k) t 0) 6, r)
  else some p
def fillRest (p : S24 × List ByteArray) : Option S24 := (numsIn p.2).bind fun l =>
  if okX ⟨p.1.f0, p.1.f1, p.1.f2, p.1.f3, p.1.f4, p.1.f5, p.1.f6, l⟩ = true then some ⟨p.1.f0, p.1.f1, p.1.f2, p.1.f3, p.1.f4, p.1.f5, p.1.f6, l⟩ else none
def fillOf (k : Nat) (ws : List ByteArray) : Option S24 := ((fillNums (atK k) ws ⟨k, 0, 0, 0, 0, 0, 0, []⟩).bind (fillWord k)).bind fillRest
theorem at_le (k o : Nat) (h : o ∈ atK k) : 1 ≤ o ∧ o ≤ 6 := by
  unfold atK at h
  rcases List.mem_append.1 h with h | h
  · exact fo_le k o h
  · split at h
    · simp only [List.mem_singleton] at h; omega
    · cases h
theorem at_len (k : Nat) : (atK k).length ≤ 6 := by
  unfold atK
  have := fo_len k
  rw [List.length_append]
  split <;> simp <;> omega
theorem index_from (l : List ByteArray) (t : ByteArray) (hs : l.length ≤ 7) : ∀ (m k : Nat), k + m = l.length → slices_Index_string_string.l0 (m + 1) l t (l.length : Int) (k : Int) = some (idxB (l.drop k) t k)
  | 0, k, h => by
    unfold slices_Index_string_string.l0
    rw [if_neg (by omega), List.drop_of_length_le (by omega)]
    rfl
  | m + 1, k, h => by
    unfold slices_Index_string_string.l0
    have ha : k < l.length := by omega
    rw [if_pos (by omega), if_pos (by omega), if_pos (by omega), wrap_small _ (by omega) (by omega)]
    have ra : rdOf ByteArray.empty l (k : Int) = l[k] := by simp [rdOf, ha]
    rw [ra, List.drop_eq_getElem_cons ha]
    by_cases he : t.toList = l[k].toList
    · rw [if_pos he, idxB, if_pos he]
    · rw [if_neg he, idxB, if_neg he]
      have := index_from l t hs m (k + 1) (by omega)
      rwa [show ((k : Int) + 1) = ((k + 1 : Nat) : Int) by omega]
theorem index_says (l : List ByteArray) (t : ByteArray) (hs : l.length ≤ 7) : slices_Index_string_string.f (l.length + 1) l t = some (idxB l t 0) := by
  unfold slices_Index_string_string.f
  have := index_from l t hs l.length 0 (by omega)
  simpa using this
theorem index_any (b : Nat) (l : List ByteArray) (t : ByteArray) (w : World) (hs : l.length ≤ 7) (h : w.heap[b]? = some (.cells (l.map Value.string).toArray 9 (0, 0))) :
    Calls Tryd.prog 59 #[.slice (some ⟨b, 0, none⟩) l.length l.length, .string t] w fun e w' => e = .returned (.int .i64 (idxB l t 0)) ∧ Drawn0 w w' := by
  refine slices_Index_string_string.calls (l.length + 1) _ _ l t _ w ?_ (Nat.le_refl _) (index_says l t hs)
  refine Kd.C_of_reads (enc := Value.string) (d := ByteArray.empty) (h1 := fun _ => rfl) ⟨rfl, by omega, fun _ => ⟨_, rfl, fun j hj => ?_⟩⟩
  have e2 : (⟨b, 0, none⟩ : Addr).add j = ⟨b, j, none⟩ := by simp [Addr.add]; exact Eq.symm
  rw [e2, blk_cell h j]
  simp [hj]
def WordsIn (w : World) (g : Nat) (A : Option Addr) (ws : List ByteArray) : Prop := (∀ ad, A = some ad → ad.block ≠ g) ∧ ∀ (j : Nat) t, ws[j]? = some t → ∃ ad, A = some ad ∧ w.cell? (ad.add j) = some (.string t)
theorem WordsIn.below {w w' : World} {g : Nat} {A : Option Addr} {ws : List ByteArray} (h : WordsIn w g A ws) (hb : Below w.heap.size w w') : WordsIn w' g A ws := ⟨h.1, fun j t hj => by
  obtain ⟨ad, ha, hc⟩ := h.2 j t hj
  exact ⟨ad, ha, pw_cell_below hb hc⟩⟩
theorem add_one_add (ad : Addr) (j : Nat) : (ad.add 1).add j = ad.add (1 + j) := by
  by_cases hj : j = 0
  · subst hj
    rfl
  · simp [Addr.add, hj, Nat.add_assoc]
theorem words_tail {w : World} {A : Option Addr} {t : ByteArray} {r : List ByteArray} {g : Nat} (h : WordsIn w g A (t :: r)) (c : Nat) (hc : r.length + 1 ≤ c) :
    ∃ A1, (∀ W : World, (Instr.slice 46 (.slice A (r.length + 1) c) (some (.int .i64 1)) none none).run Tryd.prog W = .ok (.slice A1 r.length (c - 1)) W) ∧ WordsIn w g A1 r := by
  obtain ⟨i0, hi0, _, hsz, _⟩ := info_parts info9
  have h0 := cut_from (P := Tryd.prog) 46 9 .i64 Tryd.underlying46 hi0 1 hsz A (r.length + 1) c 1 (by omega) (by omega)
  refine ⟨if c = 1 then A else A.map (·.add 1), fun W => by simpa using h0 W, fun ad had => ?_, fun j s hj => ?_⟩
  · split at had
    · exact h.1 ad had
    · obtain ⟨ad0, h1, rfl⟩ := Option.map_eq_some_iff.1 had
      rw [add_block]
      exact h.1 ad0 h1
  have hj2 := (List.getElem?_eq_some_iff.1 hj).1
  rw [if_neg (by omega)]
  obtain ⟨ad, ha, hcell⟩ := h.2 (1 + j) s (by rw [Nat.add_comm]; exact hj)
  subst ha
  exact ⟨_, rfl, by rw [add_one_add]; exact hcell⟩
theorem WordsIn.fr {base g : Nat} {w w' : World} {A : Option Addr} {ws : List ByteArray} (h : WordsIn w g A ws) (hf : Fr base g w w') (hb : w.heap.size ≤ base) : WordsIn w' g A ws := ⟨h.1, fun j t hj => by
  obtain ⟨ad, ha, hc⟩ := h.2 j t hj
  exact ⟨ad, ha, hf.cell hc hb (by rw [add_block]; exact h.1 ad ha)⟩⟩
end Go.Proofs.YtiapfhlipoomaaaDoor.Given
end
section
namespace Go.Proofs.YtiapfhlipoomaaaDoor.Given
open Go.RowKit Go.Proofs.YtiapfhlipoomaaaDoorW.PrintWords Go.Proofs.YtiapfhlipoomaaaDoorW.PrintLast Go.Proofs.YtiapfhlipoomaaaDoorW.PrintMore Go.Proofs.YtiapfhlipoomaaaDoor.Print
set_option linter.unusedVariables false
set_option linter.unusedSimpArgs false
def kp (g : Nat) : Kd Nat := Kd.scalar (fun o => Value.pointer (some ⟨g, o, none⟩)) (fun _ => rfl)
theorem info45 : (Tryd.prog.info? 45).map (fun i => (i.zero, i.size, i.bytes)) = some (some (.pointer none), 1, 8) := by kernel_rfl
theorem kp_C {w : World} {g : Nat} {A : Option Addr} {fo : List Nat} (hl : fo.length ≤ 7) (h : ∀ (j o : Nat), fo[j]? = some o → ∃ ad, A = some ad ∧ ad.block ≠ g ∧ w.cell? (ad.add j) = some (.pointer (some ⟨g, o, none⟩))) : Kd.C (kp g) w A fo.length fo := by
  refine Kd.C_of_reads (enc := fun o => Value.pointer (some ⟨g, o, none⟩)) (d := 0) (h1 := fun _ => rfl) ⟨rfl, by omega, fun hn => ?_⟩
  obtain ⟨ad, ha, _, _⟩ := h 0 fo[0] (List.getElem?_eq_getElem hn)
  refine ⟨ad, ha, fun j hj => ?_⟩
  obtain ⟨ad', ha', _, hc⟩ := h j fo[j] (List.getElem?_eq_getElem hj)
  rw [ha] at ha'
  injection ha' with e
  subst e
  rw [hc]
  simp [hj]
theorem kp_at {w : World} {g base : Nat} {ok : Nat → Prop} {v : Value} {fo : List Nat} (h : Kd.R (kp g) 45 w base ok v fo) (hg : g < base) : ∃ A c, v = .slice A fo.length c ∧ ∀ (j o : Nat), fo[j]? = some o → ∃ ad, A = some ad ∧ ad.block ≠ g ∧ w.cell? (ad.add j) = some (.pointer (some ⟨g, o, none⟩)) := by
  obtain ⟨A, c, hv, hl, hC⟩ := Kd.R_reads h
  refine ⟨A, c, hv, fun j o hj => ?_⟩
  have hjl := (List.getElem?_eq_some_iff.1 hj).1
  obtain ⟨g', cap, hv', hB, _⟩ := Kd.R_form h (by omega)
  have hr := Kd.reads_of_C (enc := fun o => Value.pointer (some ⟨g, o, none⟩)) (d := 0) (h1 := fun _ => rfl) hC
  obtain ⟨ad, ha, hc⟩ := hr.2.2 (by omega)
  rw [hv] at hv'
  injection hv' with e1 _ _
  rw [ha] at e1
  injection e1 with e1
  refine ⟨ad, ha, by rw [e1]; show g' ≠ g; omega, ?_⟩
  rw [hc j hjl]
  simp [hj]
def FillSays (w : World) (g : Nat) (r : Option S24) (e : Ending) (w' : World) : Prop := match r with
  | some x => e = .returned (.bool true) ∧ (∃ u, w'.heap[g]? = some (.cells (evC x u) 24 (0, 0)) ∧ Kd.R (Kd.int .i64) 3 w' w.heap.size (fun k => w.heap.size ≤ k) u x.f7) ∧ Fr w.heap.size g w w'
  | none => e = .returned (.bool false) ∧ (∃ x A n c, w'.heap[g]? = some (.cells (evC x (.slice A n c)) 24 (0, 0))) ∧ Fr w.heap.size g w w'
theorem nums_some {l : List ByteArray} {t : ByteArray} {a : Nat} (h : l[a]? = some t) : l.drop a = t :: l.drop (a + 1) := by
  obtain ⟨hl, rfl⟩ := List.getElem?_eq_some_iff.1 h
  exact List.drop_eq_getElem_cons hl
set_option maxRecDepth 100000 in
set_option maxHeartbeats 16000000 in
theorem fill_c0 (k : Nat) (h1 : 1 ≤ k) (h2 : k ≤ 11) (hc : clsK k = 0) (g : Nat) (AF A2 : Option Addr) (c2 : Nat) (ws : List ByteArray) (w w0 : World) (hL : LW w0) (hB0 : Below w0.heap.size w0 w) (hg0 : w0.heap.size ≤ g) (hg : w.heap[g]? = some (.cells (evC ⟨k, 0, 0, 0, 0, 0, 0, []⟩ (.slice none 0 0)) 24 (0, 0)))
    (hF : ∀ (j o : Nat), (foK k)[j]? = some o → ∃ ad, AF = some ad ∧ ad.block ≠ g ∧ w.cell? (ad.add j) = some (.pointer (some ⟨g, o, none⟩))) (hws : WordsIn w g A2 ws) (hcap : ws.length ≤ c2) (hlen : ws.length ≤ 4294967296) (hsz : ∀ t ∈ ws, t.size ≤ 281474976710656) :
    Calls Tryd.prog 49 #[.pointer (some ⟨g, 0, none⟩), .agg #[.string (wordB k), .slice AF (foK k).length (foK k).length, .pointer none, .slice none 0 0, .pointer none, .bool (liK k)], .slice A2 ws.length c2] w (FillSays w g (fillOf k ws)) := by
  have hu24 := Tryd.underlying24
  have hu48 := Tryd.underlying48
  have hu46 := Tryd.underlying46
  have HL := Aside0.mk hL
  have HB0 := Aside0.mk hB0
  have HG0 := Aside0.mk hg0
  have HCL := Aside0.mk hc
  have HLEN := Aside0.mk hlen
  have HSZ := Aside0.mk hsz
  have hfl := fo_len k
  have GW := Aside0.mk (blk_lt hg)
  have BG0 := Aside0.mk (blk_below hg (bel1 w (.cells #[.string (wordB k), .slice AF (foK k).length (foK k).length, .pointer none, .slice none 0 0, .pointer none, .bool (liK k)] 48)))
  have FF0 := Aside0.mk (fun j o hj => by obtain ⟨ad, e1, e2, e3⟩ := hF j o hj; exact ⟨ad, e1, e2, pw_cell_below (bel1 w (.cells #[.string (wordB k), .slice AF (foK k).length (foK k).length, .pointer none, .slice none 0 0, .pointer none, .bool (liK k)] 48)) e3⟩ : ∀ (j o : Nat), (foK k)[j]? = some o → ∃ ad, AF = some ad ∧ ad.block ≠ g ∧ (w.alloc (.cells #[.string (wordB k), .slice AF (foK k).length (foK k).length, .pointer none, .slice none 0 0, .pointer none, .bool (liK k)] 48)).cell? (ad.add j) = some (.pointer (some ⟨g, o, none⟩)))
  have WS0 := Aside0.mk (hws.below (bel1 w (.cells #[.string (wordB k), .slice AF (foK k).length (foK k).length, .pointer none, .slice none 0 0, .pointer none, .bool (liK k)] 48)))
  have BF0 := Aside0.mk (heap_alloc_new w (.cells #[.string (wordB k), .slice AF (foK k).length (foK k).length, .pointer none, .slice none 0 0, .pointer none, .bool (liK k)] 48))
  have NF := Aside0.mk (show w.heap.size ≠ g from Nat.ne_of_gt (blk_lt hg))
  have HZ := Aside0.mk (bel1 w (.cells #[.string (wordB k), .slice AF (foK k).length (foK k).length, .pointer none, .slice none 0 0, .pointer none, .bool (liK k)] 48))
  have GZ := Aside0.mk (show g < (w.alloc (.cells #[.string (wordB k), .slice AF (foK k).length (foK k).length, .pointer none, .slice none 0 0, .pointer none, .bool (liK k)] 48)).heap.size by have := blk_lt hg; rw [size_alloc]; omega)
  have HCAP := Aside0.mk hcap
  clear hL hB0 hg0 hc hlen hsz hg hF hws hcap
  go_enter Tryd.func49, Tryd.ntmps49
  go_upto_region 2 with (fail)
  generalize w.heap.size = g4 at BF0 NF ⊢
  generalize w.alloc (.cells #[.string (wordB k), .slice AF (foK k).length (foK k).length, .pointer none, .slice none 0 0, .pointer none, .bool (liK k)] 48) = wz at *
  have y1 : wz.cell? ⟨g4, 1, none⟩ = some (.slice AF (foK k).length (foK k).length) := (blk_cell BF0.out 1).trans rfl
  have y2 : wz.cell? ⟨g4, 2, none⟩ = some (.pointer none) := (blk_cell BF0.out 2).trans rfl
  have KC := Aside0.mk (kp_C (by omega) FF0.out)
  obtain ⟨v0, hv0⟩ : ∃ v, v = Value.slice none 0 0 := ⟨_, rfl⟩
  rw [← hv0]
  have HV0 : Aside0 (Kd.R (kp g) 45 wz wz.heap.size (fun _ => True) v0 []) := ⟨by rw [hv0]; exact Kd.R_nil _ _ _ _ _⟩
  clear hv0
  go_wp2_with (first
    | ((with_reducible refine gate_builtin (b := .append) (xs := #[.tmp 16, .tmp 18]) rfl ?_); at_builtin; refine Kd.R_append_rows (kp g) (w0 := wz) wz.heap.size rfl (.tmp 16) (.tmp 18) 44 45 (.pointer none) 8 rfl Tryd.underlying44 info45 rfl Nat.one_pos (by omega) v0 ([] : List Nat) (foK k) AF (foK k).length (foK k).length (fun _ => True) (fun _ => False) rfl rfl HV0.out KC.out (fun _ _ h => h) (fun _ h => h.elim) (fun _ _ => trivial) (Below.refl _ _) (Nat.le_refl _) (by simp only [List.length_nil]; omega) ?_; intro v7 wl ho hb _ _; obtain ⟨Av, cv, rfl⟩ := Kd.R_slice ho; have HO := Aside0.mk ho; have HB1 := Aside0.mk hb; clear ho hb; have z2 : wl.cell? ⟨g4, 2, none⟩ = some (.pointer none) := cell_keep BF0.out HB1.out rfl))
  have HAT : Aside0 (Kd.R (kp g) 45 wl wz.heap.size (fun _ => True) (.slice Av ([] ++ foK k).length cv) (atK k)) := ⟨by have h := HO.out; rw [show atK k = [] ++ foK k by unfold atK; rw [HCL.out]; simp]; exact h⟩
  obtain ⟨Aa, ca, hva, hat⟩ := kp_at HAT.out GZ.out
  have hvl : (foK k).length = (atK k).length := by rw [show atK k = [] ++ foK k by unfold atK; rw [HCL.out]; simp]; simp
  have hvm : ([] ++ foK k).length = (atK k).length := by rw [show atK k = [] ++ foK k by unfold atK; rw [HCL.out]; simp]
  rw [hvm] at hva
  rw [hvl]
  (try rw [show ((foK k).length : Int) + 1 = ((atK k).length : Int) by omega])
  injection hva with hva1 _ hva3
  subst hva1 hva3
  clear hvm
  clear hvl
  have AT := Aside0.mk hat
  have HWL := Aside0.mk (HZ.out.trans (HB1.out.mono HZ.out.size))
  have BG := Aside0.mk (blk_below BG0.out HB1.out)
  have BF := Aside0.mk (blk_below BF0.out HB1.out)
  have WS := Aside0.mk (WS0.out.below HB1.out)
  have GL := Aside0.mk (blk_lt BG.out)
  have hal := at_len k
  clear hat HO HAT HV0 BG0 BF0 WS0 FF0 KC HB1 HZ y1 y2 z2
  go_loopw [2, 30] (fun v2 i wr => ∃ (a : Nat) (Aw : Option Addr) (cw : Nat) (us : List ByteArray) (x : S24), i = .int .i64 a ∧ a ≤ (atK k).length ∧ v2 = .slice Aw us.length cw ∧ us.length ≤ cw ∧ Aside0 (WordsIn wr g Aw us) ∧ Aside0 (us.length ≤ ws.length ∧ ∀ t ∈ us, t ∈ ws) ∧ Aside0 (fillNums (atK k) ws ⟨k, 0, 0, 0, 0, 0, 0, []⟩ = fillNums ((atK k).drop a) us x) ∧ Aside0 (x.f0 = k ∧ x.f7 = []) ∧ Aside0 (wr.heap[g]? = some (.cells (evC x (.slice none 0 0)) 24 (0, 0))) ∧ Aside0 (Fr wl.heap.size g wl wr)) (fun _ i _ => (atK k).length - (intOf i).toNat)
  case atStart => exact ⟨0, A2, c2, ws, _, rfl, by omega, rfl, HCAP.out, WS, ⟨Nat.le_refl _, fun _ h => h⟩, ⟨rfl⟩, ⟨rfl, rfl⟩, BG, ⟨⟨rfl, rfl, rfl, Nat.le_refl _, fun _ _ _ => rfl⟩⟩⟩
  case round =>
    clear BG WS
    obtain ⟨a, Aw, cw, us, x, rfl, ha, rfl, hcw, WS, US, HF, HX, BG, FR⟩ := hrel
    have hlm : us.length ≤ 4294967296 := Nat.le_trans US.out.1 HLEN.out
    by_cases hlt : a < (atK k).length
    · obtain ⟨o, ho⟩ : ∃ o, (atK k)[a]? = some o := ⟨_, List.getElem?_eq_getElem hlt⟩
      obtain ⟨ad1, hA1, hn1, hc1⟩ := AT.out a o ho
      subst hA1
      have HO6 := Aside0.mk (at_le k o (List.mem_of_getElem? ho))
      have HDR : Aside0 ((atK k).drop a = o :: (atK k).drop (a + 1)) := ⟨by obtain ⟨hl, rfl⟩ := List.getElem?_eq_some_iff.1 ho; exact List.drop_eq_getElem_cons hl⟩
      have x1 : wr.cell? (ad1.add a) = some (.pointer (some ⟨g, o, none⟩)) := FR.out.cell hc1 (Nat.le_refl _) (by rw [add_block]; exact hn1)
      have x2 : wr.cell? ⟨g, o, none⟩ = some (.int .i64 (getK x o)) := (blk_cell BG.out o).trans (ev_get x _ o HO6.out.1 HO6.out.2)
      clear hc1 hn1 ho
      cases us with
      | nil =>
        have HR : Aside0 (fillOf k ws = none) := ⟨by unfold fillOf; rw [HF.out, HDR.out]; rfl⟩
        simp only [List.length_nil] at hcw ⊢
        go_wp2_with (fail)
        go_ret
        rw [HR.out]
        exact ⟨rfl, ⟨_, _, _, _, BG.out⟩, (Fr.of_below HWL.out).trans (FR.out.mono HWL.out.size)⟩
      | cons t r =>
        simp only [List.length_cons] at hcw hlm ⊢
        obtain ⟨ad2, hA2, hw2⟩ := WS.out.2 0 t rfl
        subst hA2
        have x3 : wr.cell? ad2 = some (.string t) := hw2
        have HTS := Aside0.mk (HSZ.out t (US.out.2 t (List.mem_cons_self ..)))
        have FRW := Aside0.mk ((Fr.of_below HWL.out).trans (FR.out.mono HWL.out.size))
        have HLW : Aside0 (LW wr) := ⟨HL.out.below (HB0.out.trans (FRW.out.below HB0.out.size HG0.out))⟩
        cases hn : numOf t with
        | none =>
          have HN := Aside0.mk hn
          have HR : Aside0 (fillOf k ws = none) := ⟨by unfold fillOf; rw [HF.out, HDR.out, fillNums, HN.out]; rfl⟩
          clear hn
          go_wp2_with (go_at_call 58; refine (number_no t HN.out _ HLW.out HTS.out).mono ?_; rintro e w3 ⟨⟨v3, rfl⟩, hb⟩; have NB := Aside0.mk hb; clear hb)
          go_ret
          rw [HR.out]
          exact ⟨rfl, ⟨_, _, _, _, blk_below BG.out NB.out⟩, FRW.out.trans (Fr.of_below (NB.out.mono FRW.out.size))⟩
        | some n =>
          have HN := Aside0.mk hn
          have HF2 : Aside0 (fillNums (atK k) ws ⟨k, 0, 0, 0, 0, 0, 0, []⟩ = fillNums ((atK k).drop (a + 1)) r (setK x n o)) := ⟨by rw [HF.out, HDR.out, fillNums, HN.out]⟩
          have HX2 : Aside0 ((setK x n o).f0 = k ∧ (setK x n o).f7 = []) := ⟨by rw [setK_f0, setK_f7]; exact HX.out⟩
          obtain ⟨A3, hsl, hw3⟩ := words_tail WS.out cw (by omega)
          have WS3 := Aside0.mk hw3
          have US2 : Aside0 (r.length ≤ ws.length ∧ ∀ t ∈ r, t ∈ ws) := ⟨by have h1 := US.out.1; have h2 := US.out.2; simp only [List.length_cons] at h1; exact ⟨by omega, fun q hq => h2 q (List.mem_cons_of_mem _ hq)⟩⟩
          have hcw3 : r.length ≤ cw - 1 := by omega
          have HCW3 := Aside0.mk hcw3
          clear hn hw3 hcw3
          go_wp2_with (go_at_call 58; refine (number_yes t n HN.out _ HLW.out HTS.out).mono ?_; rintro e w3 ⟨rfl, hb⟩; have NB := Aside0.mk hb; clear hb; have BG3 := Aside0.mk (blk_below BG.out NB.out); have x4 : w3.cell? ⟨g, o, none⟩ = some (.int .i64 (getK x o)) := (blk_cell BG3.out o).trans (ev_get x _ o HO6.out.1 HO6.out.2); have x5 : w3.frozen? ⟨g, o, none⟩ = false := Lib.frozen_of_heap BG3.out o)
          have FR3 := Aside0.mk (fr_set (FR.out.trans (Fr.of_below (NB.out.mono FR.out.size))) o (.int .i64 n))
          have BG4 : Aside0 ((w3.setCell ⟨g, o, none⟩ (.int .i64 n)).heap[g]? = some (.cells (evC (setK x n o) (.slice none 0 0)) 24 (0, 0))) := ⟨blk_put BG3.out o _ (setK_cells x _ n o HO6.out.1 HO6.out.2)⟩
          have WS4 := Aside0.mk ((WS3.out.below NB.out).fr (base := w3.heap.size) (w' := w3.setCell ⟨g, o, none⟩ (.int .i64 n)) (fr_set ⟨rfl, rfl, rfl, Nat.le_refl _, fun _ _ _ => rfl⟩ o _) (Nat.le_refl _))
          go_roundw
          case rel => exact ⟨a + 1, A3, cw - 1, r, setK x n o, by go_num, by omega, rfl, HCW3.out, WS4, US2, HF2, HX2, BG4, FR3⟩
          case measure => simp [intOf]; omega
    · obtain rfl : a = (atK k).length := by omega
      have HF2 : Aside0 (fillNums (atK k) ws ⟨k, 0, 0, 0, 0, 0, 0, []⟩ = some (x, us)) := ⟨by rw [HF.out, List.drop_length]; rfl⟩
      have FRW := Aside0.mk ((Fr.of_below HWL.out).trans (FR.out.mono HWL.out.size))
      have z3 : wr.cell? ⟨g4, 3, none⟩ = some (.slice none 0 0) := (blk_cell (FR.out.blk BF.out (Nat.le_refl _) NF.out) 3).trans rfl
      clear HF ha hlt
      have HFO : Aside0 (fillOf k ws = fillRest (x, us)) := ⟨by unfold fillOf; rw [HF2.out]; simp only [Option.bind_some]; rw [show fillWord k (x, us) = some (x, us) by unfold fillWord; rw [HCL.out]; rfl]; rfl⟩
      go_wp2_with (fail)
      obtain ⟨wl2, rfl⟩ : ∃ wl2 : World, wl2 = wr := ⟨_, rfl⟩
      clear z3 HF2
      have UL : Aside0 (us.length ≤ 4294967296) := ⟨Nat.le_trans US.out.1 HLEN.out⟩
      have GL2 := Aside0.mk (blk_lt BG.out)
      go_loopw [77] (fun i wr => ∃ (a : Nat) (ns : List Int) (un : Value), i = .int .i64 a ∧ a ≤ us.length ∧ Aside0 (numsIn us = (numsIn (us.drop a)).map (ns ++ ·)) ∧ Aside0 (ns.length = a) ∧ Aside0 (wr.heap[g]? = some (.cells (evC x un) 24 (0, 0))) ∧ Aside0 (Kd.R (Kd.int .i64) 3 wr wl2.heap.size (fun k => wl2.heap.size ≤ k) un ns) ∧ Aside0 (Fr wl2.heap.size g wl2 wr)) (fun i _ => us.length - (intOf i).toNat)
      case atStart => exact ⟨0, [], _, rfl, by omega, ⟨by rw [List.drop_zero]; cases numsIn us <;> simp⟩, ⟨rfl⟩, BG, ⟨Kd.R_nil _ _ _ _ _⟩, ⟨⟨rfl, rfl, rfl, Nat.le_refl _, fun _ _ _ => rfl⟩⟩⟩
      case round =>
        clear BG
        obtain ⟨a, ns, un, rfl, ha, HN, HNL, BG, HO, FR2⟩ := hrel
        have hul := UL.out
        have FRX := Aside0.mk (FRW.out.trans (FR2.out.mono FRW.out.size))
        obtain ⟨Au, cu, rfl⟩ := Kd.R_slice HO.out
        by_cases hlt : a < us.length
        · obtain ⟨t, ht⟩ : ∃ t, us[a]? = some t := ⟨_, List.getElem?_eq_getElem hlt⟩
          obtain ⟨adw, hAw, hcw⟩ := WS.out.2 a t ht
          have had := WS.out.1 adw hAw
          subst hAw
          have x1 : wr.cell? (adw.add a) = some (.string t) := FR2.out.cell hcw (Nat.le_refl _) (by rw [add_block]; exact had)
          have HTS := Aside0.mk (HSZ.out t (US.out.2 t (List.mem_of_getElem? ht)))
          have HLW : Aside0 (LW wr) := ⟨HL.out.below (HB0.out.trans (FRX.out.below HB0.out.size HG0.out))⟩
          have HDR := Aside0.mk (nums_some ht)
          clear hcw had ht
          cases hn : numOf t with
          | none =>
            have HNN := Aside0.mk hn
            have HR : Aside0 (fillOf k ws = none) := ⟨by rw [HFO.out]; unfold fillRest; simp only; rw [HN.out, HDR.out, numsIn, HNN.out]; rfl⟩
            clear hn
            go_wp2_with (go_at_call 58; refine (number_no t HNN.out _ HLW.out HTS.out).mono ?_; rintro e w3 ⟨⟨v3, rfl⟩, hb⟩; have NB := Aside0.mk hb; clear hb)
            go_ret
            rw [HR.out]
            exact ⟨rfl, ⟨_, _, _, _, blk_below BG.out NB.out⟩, FRX.out.trans (Fr.of_below (NB.out.mono FRX.out.size))⟩
          | some n =>
            have HNN := Aside0.mk hn
            have HN2 : Aside0 (numsIn us = (numsIn (us.drop (a + 1))).map ((ns ++ [n]) ++ ·)) := ⟨by rw [HN.out, HDR.out, numsIn, HNN.out]; cases numsIn (us.drop (a + 1)) <;> simp⟩
            have HTL : Aside0 ((ns.length + 1) * 8 ≤ 140737488355328) := ⟨by rw [HNL.out]; omega⟩
            clear hn
            go_wp2_with (first
              | (go_at_call 58; refine (number_yes t n HNN.out _ HLW.out HTS.out).mono ?_; rintro e w3 ⟨rfl, hb⟩; have NB := Aside0.mk hb; clear hb; have BG3 := Aside0.mk (blk_below BG.out NB.out); have HO3 := Aside0.mk (Kd.R_below HO.out NB.out); have x7 : w3.cell? ⟨g, 7, none⟩ = some (.slice Au ns.length cu) := (blk_cell BG3.out 7).trans rfl)
              | ((with_reducible refine gate_builtin (b := .append) (xs := #[.tmp 92, .tmp 94]) rfl ?_); at_builtin; refine Kd.R_append (Kd.int .i64) (w0 := w3) wl2.heap.size rfl (.tmp 92) (.tmp 94) 22 3 (.int .i64 0) 8 rfl Tryd.underlying22 info3 rfl (by decide) (by omega) (.slice Au ns.length cu) ns n [.int .i64 n] (fun k => wl2.heap.size ≤ k) (fun _ => False) rfl rfl rfl (fun _ h => h.elim) (fun k hk => Nat.le_trans (Nat.le_trans FR2.out.size NB.out.size) hk) HO3.out (Below.refl _ _) (Nat.le_trans FR2.out.size NB.out.size) HTL.out ?_; intro v4 w4 ho hb _ _; obtain ⟨Av, cv, rfl⟩ := Kd.R_slice ho; have HO4 := Aside0.mk ho; have NB4 := Aside0.mk hb; clear ho hb; have BG4 : Aside0 (w4.heap[g]? = some (.cells (evC x (.slice Au ns.length cu)) 24 (0, 0))) := ⟨(NB4.out.block g GL2.out).trans BG3.out⟩; have x8 : w4.cell? ⟨g, 7, none⟩ = some (.slice Au ns.length cu) := (blk_cell BG4.out 7).trans rfl; have x9 : w4.frozen? ⟨g, 7, none⟩ = false := Lib.frozen_of_heap BG4.out 7))
            have HO5 : Aside0 (Kd.R (Kd.int .i64) 3 (w4.setCell ⟨g, 7, none⟩ (.slice Av (ns ++ [n]).length cv)) wl2.heap.size (fun k => wl2.heap.size ≤ k) (.slice Av (ns ++ [n]).length cv) (ns ++ [n])) := ⟨Kd.R_far HO4.out (fun k hk => Nat.ne_of_gt (Nat.lt_of_lt_of_le GL2.out hk)) _⟩
            have BG5 : Aside0 ((w4.setCell ⟨g, 7, none⟩ (.slice Av (ns ++ [n]).length cv)).heap[g]? = some (.cells (evC x (.slice Av (ns ++ [n]).length cv)) 24 (0, 0))) := ⟨blk_put BG4.out 7 _ rfl⟩
            have FR5 := Aside0.mk (fr_set ((FR2.out.trans (Fr.of_below (NB.out.mono FR2.out.size))).trans (Fr.of_below NB4.out)) 7 (.slice Av (ns ++ [n]).length cv))
            simp only [List.length_append, List.length_cons, List.length_nil, Nat.zero_add] at HO5 BG5 FR5
            go_roundw
            case rel => exact ⟨a + 1, ns ++ [n], _, by go_num, by omega, HN2, ⟨by rw [List.length_append, HNL.out]; rfl⟩, BG5, HO5, FR5⟩
            case measure => simp [intOf]; omega
        · obtain rfl : a = us.length := by omega
          have HNS : Aside0 (numsIn us = some ns) := ⟨by rw [HN.out, List.drop_length]; simp [numsIn]⟩
          obtain ⟨_, hcu, hC⟩ := Kd.R_reads' HO.out
          have HC := Aside0.mk hC
          have HCU := Aside0.mk hcu
          obtain ⟨y, hy⟩ : ∃ y : S24, y = ⟨x.f0, x.f1, x.f2, x.f3, x.f4, x.f5, x.f6, ns⟩ := ⟨_, rfl⟩
          have HY := Aside0.mk hy
          clear hC hcu hy hlt ha
          cases hok : okX y with
          | true =>
            have HCK : Aside0 (checkOf ⟨x.f0, x.f1, x.f2, x.f3, x.f4, x.f5, x.f6, ns⟩ = 0) := ⟨by rw [← HY.out, checkOf_ok, hok]; rfl⟩
            have HR : Aside0 (fillOf k ws = some y) := ⟨by rw [HFO.out]; unfold fillRest; simp only; rw [HNS.out]; simp only [Option.bind_some]; rw [← HY.out, if_pos hok]⟩
            clear hok
            go_wp2_with (first
              | (refine wpList_load_row rfl 24 (.tmp 100) rfl g rfl 24 (evC x (.slice Au ns.length cu)) (0, 0) _ BG.out Tryd.underlying24 rfl (by kernel_rfl) ?_)
              | (go_at_call 10; refine (chk_any ⟨x.f0, x.f1, x.f2, x.f3, x.f4, x.f5, x.f6, ns⟩ Au cu _ HC.out HCU.out).mono ?_; rw [HCK.out]; rintro e w5 ⟨rfl, hb⟩; have NB := Aside0.mk hb; clear hb))
            go_ret
            rw [HR.out]
            exact ⟨rfl, ⟨_, by rw [HY.out]; exact blk_below BG.out NB.out, by rw [HY.out]; exact Kd.R_mono (Kd.R_lower (Kd.R_below HO.out NB.out) FRW.out.size) (fun k hk => Nat.le_trans FRW.out.size hk)⟩, FRX.out.trans (Fr.of_below (NB.out.mono FRX.out.size))⟩
          | false =>
            have HCK : Aside0 (checkOf ⟨x.f0, x.f1, x.f2, x.f3, x.f4, x.f5, x.f6, ns⟩ = 180) := ⟨by rw [← HY.out, checkOf_ok, hok]; rfl⟩
            have HR : Aside0 (fillOf k ws = none) := ⟨by rw [HFO.out]; unfold fillRest; simp only; rw [HNS.out]; simp only [Option.bind_some]; rw [← HY.out, if_neg (by rw [hok]; decide)]⟩
            clear hok
            go_wp2_with (first
              | (refine wpList_load_row rfl 24 (.tmp 100) rfl g rfl 24 (evC x (.slice Au ns.length cu)) (0, 0) _ BG.out Tryd.underlying24 rfl (by kernel_rfl) ?_)
              | (go_at_call 10; refine (chk_any ⟨x.f0, x.f1, x.f2, x.f3, x.f4, x.f5, x.f6, ns⟩ Au cu _ HC.out HCU.out).mono ?_; rw [HCK.out]; rintro e w5 ⟨rfl, hb⟩; have NB := Aside0.mk hb; clear hb))
            go_ret
            rw [HR.out]
            exact ⟨rfl, ⟨_, _, _, _, blk_below BG.out NB.out⟩, FRX.out.trans (Fr.of_below (NB.out.mono FRX.out.size))⟩
set_option maxRecDepth 100000 in
set_option maxHeartbeats 16000000 in
theorem fill_c1 (k : Nat) (h1 : 1 ≤ k) (h2 : k ≤ 11) (hc : clsK k = 1) (g : Nat) (AF A2 : Option Addr) (c2 : Nat) (ws : List ByteArray) (w w0 : World) (hL : LW w0) (hB0 : Below w0.heap.size w0 w) (hg0 : w0.heap.size ≤ g) (hg : w.heap[g]? = some (.cells (evC ⟨k, 0, 0, 0, 0, 0, 0, []⟩ (.slice none 0 0)) 24 (0, 0)))
    (hF : ∀ (j o : Nat), (foK k)[j]? = some o → ∃ ad, AF = some ad ∧ ad.block ≠ g ∧ w.cell? (ad.add j) = some (.pointer (some ⟨g, o, none⟩))) (hws : WordsIn w g A2 ws) (hcap : ws.length ≤ c2) (hlen : ws.length ≤ 4294967296) (hsz : ∀ t ∈ ws, t.size ≤ 281474976710656) :
    Calls Tryd.prog 49 #[.pointer (some ⟨g, 0, none⟩), .agg #[.string (wordB k), .slice AF (foK k).length (foK k).length, .pointer (some ⟨g, 6, none⟩), .slice none 0 0, .pointer none, .bool false], .slice A2 ws.length c2] w (FillSays w g (fillOf k ws)) := by
  have hu24 := Tryd.underlying24
  have hu48 := Tryd.underlying48
  have hu46 := Tryd.underlying46
  have HL := Aside0.mk hL
  have HB0 := Aside0.mk hB0
  have HG0 := Aside0.mk hg0
  have HCL := Aside0.mk hc
  have HLEN := Aside0.mk hlen
  have HSZ := Aside0.mk hsz
  have hfl := fo_len k
  have GW := Aside0.mk (blk_lt hg)
  have BG0 := Aside0.mk (blk_below hg (bel1 w (.cells #[.string (wordB k), .slice AF (foK k).length (foK k).length, .pointer (some ⟨g, 6, none⟩), .slice none 0 0, .pointer none, .bool false] 48)))
  have FF0 := Aside0.mk (fun j o hj => by obtain ⟨ad, e1, e2, e3⟩ := hF j o hj; exact ⟨ad, e1, e2, pw_cell_below (bel1 w (.cells #[.string (wordB k), .slice AF (foK k).length (foK k).length, .pointer (some ⟨g, 6, none⟩), .slice none 0 0, .pointer none, .bool false] 48)) e3⟩ : ∀ (j o : Nat), (foK k)[j]? = some o → ∃ ad, AF = some ad ∧ ad.block ≠ g ∧ (w.alloc (.cells #[.string (wordB k), .slice AF (foK k).length (foK k).length, .pointer (some ⟨g, 6, none⟩), .slice none 0 0, .pointer none, .bool false] 48)).cell? (ad.add j) = some (.pointer (some ⟨g, o, none⟩)))
  have WS0 := Aside0.mk (hws.below (bel1 w (.cells #[.string (wordB k), .slice AF (foK k).length (foK k).length, .pointer (some ⟨g, 6, none⟩), .slice none 0 0, .pointer none, .bool false] 48)))
  have BF0 := Aside0.mk (heap_alloc_new w (.cells #[.string (wordB k), .slice AF (foK k).length (foK k).length, .pointer (some ⟨g, 6, none⟩), .slice none 0 0, .pointer none, .bool false] 48))
  have NF := Aside0.mk (show w.heap.size ≠ g from Nat.ne_of_gt (blk_lt hg))
  have HZ := Aside0.mk (bel1 w (.cells #[.string (wordB k), .slice AF (foK k).length (foK k).length, .pointer (some ⟨g, 6, none⟩), .slice none 0 0, .pointer none, .bool false] 48))
  have GZ := Aside0.mk (show g < (w.alloc (.cells #[.string (wordB k), .slice AF (foK k).length (foK k).length, .pointer (some ⟨g, 6, none⟩), .slice none 0 0, .pointer none, .bool false] 48)).heap.size by have := blk_lt hg; rw [size_alloc]; omega)
  have HCAP := Aside0.mk hcap
  clear hL hB0 hg0 hc hlen hsz hg hF hws hcap
  go_enter Tryd.func49, Tryd.ntmps49
  go_upto_region 2 with (fail)
  generalize w.heap.size = g4 at BF0 NF ⊢
  generalize w.alloc (.cells #[.string (wordB k), .slice AF (foK k).length (foK k).length, .pointer (some ⟨g, 6, none⟩), .slice none 0 0, .pointer none, .bool false] 48) = wz at *
  have y1 : wz.cell? ⟨g4, 1, none⟩ = some (.slice AF (foK k).length (foK k).length) := (blk_cell BF0.out 1).trans rfl
  have y2 : wz.cell? ⟨g4, 2, none⟩ = some (.pointer (some ⟨g, 6, none⟩)) := (blk_cell BF0.out 2).trans rfl
  have KC := Aside0.mk (kp_C (by omega) FF0.out)
  obtain ⟨v0, hv0⟩ : ∃ v, v = Value.slice none 0 0 := ⟨_, rfl⟩
  rw [← hv0]
  have HV0 : Aside0 (Kd.R (kp g) 45 wz wz.heap.size (fun _ => True) v0 []) := ⟨by rw [hv0]; exact Kd.R_nil _ _ _ _ _⟩
  clear hv0
  go_wp2_with (first
    | ((with_reducible refine gate_builtin (b := .append) (xs := #[.tmp 16, .tmp 18]) rfl ?_); at_builtin; refine Kd.R_append_rows (kp g) (w0 := wz) wz.heap.size rfl (.tmp 16) (.tmp 18) 44 45 (.pointer none) 8 rfl Tryd.underlying44 info45 rfl Nat.one_pos (by omega) v0 ([] : List Nat) (foK k) AF (foK k).length (foK k).length (fun _ => True) (fun _ => False) rfl rfl HV0.out KC.out (fun _ _ h => h) (fun _ h => h.elim) (fun _ _ => trivial) (Below.refl _ _) (Nat.le_refl _) (by simp only [List.length_nil]; omega) ?_; intro v7 wl ho hb _ _; obtain ⟨Av, cv, rfl⟩ := Kd.R_slice ho; have HO := Aside0.mk ho; have HB1 := Aside0.mk hb; clear ho hb; have z2 : wl.cell? ⟨g4, 2, none⟩ = some (.pointer (some ⟨g, 6, none⟩)) := cell_keep BF0.out HB1.out rfl)
    | ((with_reducible refine gate_builtin (b := .append) (xs := #[.tmp 23, .tmp 26]) rfl ?_); at_builtin; refine Kd.R_append (kp g) (w0 := wz) wz.heap.size rfl (.tmp 23) (.tmp 26) 44 45 (.pointer none) 8 rfl Tryd.underlying44 info45 rfl Nat.one_pos (by omega) (.slice Av ([] ++ foK k).length cv) ([] ++ foK k) 6 [.pointer (some ⟨g, 6, none⟩)] (fun _ => True) (fun _ => False) rfl rfl rfl (fun _ h => h.elim) (fun _ _ => trivial) HO.out HB1.out HB1.out.size (by simp only [List.nil_append]; omega) ?_; intro v8 wm ho hb _ _; obtain ⟨Ax, cx, rfl⟩ := Kd.R_slice ho; have HO2 := Aside0.mk ho; have HB2 := Aside0.mk hb; clear ho hb HO HB1; have HO := HO2; have HB1 := HB2; clear HO2 HB2))
  have HAT : Aside0 (Kd.R (kp g) 45 wm wz.heap.size (fun _ => True) (.slice Ax ([] ++ foK k ++ [6]).length cx) (atK k)) := ⟨by have h := HO.out; rw [show atK k = [] ++ foK k ++ [6] by unfold atK; rw [HCL.out]; simp]; exact h⟩
  obtain ⟨Aa, ca, hva, hat⟩ := kp_at HAT.out GZ.out
  have hvl : ((foK k).length + 1) = (atK k).length := by rw [show atK k = [] ++ foK k ++ [6] by unfold atK; rw [HCL.out]; simp]; simp
  have hvm : ([] ++ foK k ++ [6]).length = (atK k).length := by rw [show atK k = [] ++ foK k ++ [6] by unfold atK; rw [HCL.out]; simp]
  rw [hvm] at hva
  rw [hvl]
  (try rw [show ((foK k).length : Int) + 1 = ((atK k).length : Int) by omega])
  injection hva with hva1 _ hva3
  subst hva1 hva3
  clear hvm
  clear hvl
  have AT := Aside0.mk hat
  have HWL := Aside0.mk (HZ.out.trans (HB1.out.mono HZ.out.size))
  have BG := Aside0.mk (blk_below BG0.out HB1.out)
  have BF := Aside0.mk (blk_below BF0.out HB1.out)
  have WS := Aside0.mk (WS0.out.below HB1.out)
  have GL := Aside0.mk (blk_lt BG.out)
  have hal := at_len k
  clear hat HO HAT HV0 BG0 BF0 WS0 FF0 KC HB1 HZ y1 y2 z2
  go_loopw [2, 30] (fun v2 i wr => ∃ (a : Nat) (Aw : Option Addr) (cw : Nat) (us : List ByteArray) (x : S24), i = .int .i64 a ∧ a ≤ (atK k).length ∧ v2 = .slice Aw us.length cw ∧ us.length ≤ cw ∧ Aside0 (WordsIn wr g Aw us) ∧ Aside0 (us.length ≤ ws.length ∧ ∀ t ∈ us, t ∈ ws) ∧ Aside0 (fillNums (atK k) ws ⟨k, 0, 0, 0, 0, 0, 0, []⟩ = fillNums ((atK k).drop a) us x) ∧ Aside0 (x.f0 = k ∧ x.f7 = []) ∧ Aside0 (wr.heap[g]? = some (.cells (evC x (.slice none 0 0)) 24 (0, 0))) ∧ Aside0 (Fr wm.heap.size g wm wr)) (fun _ i _ => (atK k).length - (intOf i).toNat)
  case atStart => exact ⟨0, A2, c2, ws, _, rfl, by omega, rfl, HCAP.out, WS, ⟨Nat.le_refl _, fun _ h => h⟩, ⟨rfl⟩, ⟨rfl, rfl⟩, BG, ⟨⟨rfl, rfl, rfl, Nat.le_refl _, fun _ _ _ => rfl⟩⟩⟩
  case round =>
    clear BG WS
    obtain ⟨a, Aw, cw, us, x, rfl, ha, rfl, hcw, WS, US, HF, HX, BG, FR⟩ := hrel
    have hlm : us.length ≤ 4294967296 := Nat.le_trans US.out.1 HLEN.out
    by_cases hlt : a < (atK k).length
    · obtain ⟨o, ho⟩ : ∃ o, (atK k)[a]? = some o := ⟨_, List.getElem?_eq_getElem hlt⟩
      obtain ⟨ad1, hA1, hn1, hc1⟩ := AT.out a o ho
      subst hA1
      have HO6 := Aside0.mk (at_le k o (List.mem_of_getElem? ho))
      have HDR : Aside0 ((atK k).drop a = o :: (atK k).drop (a + 1)) := ⟨by obtain ⟨hl, rfl⟩ := List.getElem?_eq_some_iff.1 ho; exact List.drop_eq_getElem_cons hl⟩
      have x1 : wr.cell? (ad1.add a) = some (.pointer (some ⟨g, o, none⟩)) := FR.out.cell hc1 (Nat.le_refl _) (by rw [add_block]; exact hn1)
      have x2 : wr.cell? ⟨g, o, none⟩ = some (.int .i64 (getK x o)) := (blk_cell BG.out o).trans (ev_get x _ o HO6.out.1 HO6.out.2)
      clear hc1 hn1 ho
      cases us with
      | nil =>
        have HR : Aside0 (fillOf k ws = none) := ⟨by unfold fillOf; rw [HF.out, HDR.out]; rfl⟩
        simp only [List.length_nil] at hcw ⊢
        go_wp2_with (fail)
        go_ret
        rw [HR.out]
        exact ⟨rfl, ⟨_, _, _, _, BG.out⟩, (Fr.of_below HWL.out).trans (FR.out.mono HWL.out.size)⟩
      | cons t r =>
        simp only [List.length_cons] at hcw hlm ⊢
        obtain ⟨ad2, hA2, hw2⟩ := WS.out.2 0 t rfl
        subst hA2
        have x3 : wr.cell? ad2 = some (.string t) := hw2
        have HTS := Aside0.mk (HSZ.out t (US.out.2 t (List.mem_cons_self ..)))
        have FRW := Aside0.mk ((Fr.of_below HWL.out).trans (FR.out.mono HWL.out.size))
        have HLW : Aside0 (LW wr) := ⟨HL.out.below (HB0.out.trans (FRW.out.below HB0.out.size HG0.out))⟩
        cases hn : numOf t with
        | none =>
          have HN := Aside0.mk hn
          have HR : Aside0 (fillOf k ws = none) := ⟨by unfold fillOf; rw [HF.out, HDR.out, fillNums, HN.out]; rfl⟩
          clear hn
          go_wp2_with (go_at_call 58; refine (number_no t HN.out _ HLW.out HTS.out).mono ?_; rintro e w3 ⟨⟨v3, rfl⟩, hb⟩; have NB := Aside0.mk hb; clear hb)
          go_ret
          rw [HR.out]
          exact ⟨rfl, ⟨_, _, _, _, blk_below BG.out NB.out⟩, FRW.out.trans (Fr.of_below (NB.out.mono FRW.out.size))⟩
        | some n =>
          have HN := Aside0.mk hn
          have HF2 : Aside0 (fillNums (atK k) ws ⟨k, 0, 0, 0, 0, 0, 0, []⟩ = fillNums ((atK k).drop (a + 1)) r (setK x n o)) := ⟨by rw [HF.out, HDR.out, fillNums, HN.out]⟩
          have HX2 : Aside0 ((setK x n o).f0 = k ∧ (setK x n o).f7 = []) := ⟨by rw [setK_f0, setK_f7]; exact HX.out⟩
          obtain ⟨A3, hsl, hw3⟩ := words_tail WS.out cw (by omega)
          have WS3 := Aside0.mk hw3
          have US2 : Aside0 (r.length ≤ ws.length ∧ ∀ t ∈ r, t ∈ ws) := ⟨by have h1 := US.out.1; have h2 := US.out.2; simp only [List.length_cons] at h1; exact ⟨by omega, fun q hq => h2 q (List.mem_cons_of_mem _ hq)⟩⟩
          have hcw3 : r.length ≤ cw - 1 := by omega
          have HCW3 := Aside0.mk hcw3
          clear hn hw3 hcw3
          go_wp2_with (go_at_call 58; refine (number_yes t n HN.out _ HLW.out HTS.out).mono ?_; rintro e w3 ⟨rfl, hb⟩; have NB := Aside0.mk hb; clear hb; have BG3 := Aside0.mk (blk_below BG.out NB.out); have x4 : w3.cell? ⟨g, o, none⟩ = some (.int .i64 (getK x o)) := (blk_cell BG3.out o).trans (ev_get x _ o HO6.out.1 HO6.out.2); have x5 : w3.frozen? ⟨g, o, none⟩ = false := Lib.frozen_of_heap BG3.out o)
          have FR3 := Aside0.mk (fr_set (FR.out.trans (Fr.of_below (NB.out.mono FR.out.size))) o (.int .i64 n))
          have BG4 : Aside0 ((w3.setCell ⟨g, o, none⟩ (.int .i64 n)).heap[g]? = some (.cells (evC (setK x n o) (.slice none 0 0)) 24 (0, 0))) := ⟨blk_put BG3.out o _ (setK_cells x _ n o HO6.out.1 HO6.out.2)⟩
          have WS4 := Aside0.mk ((WS3.out.below NB.out).fr (base := w3.heap.size) (w' := w3.setCell ⟨g, o, none⟩ (.int .i64 n)) (fr_set ⟨rfl, rfl, rfl, Nat.le_refl _, fun _ _ _ => rfl⟩ o _) (Nat.le_refl _))
          go_roundw
          case rel => exact ⟨a + 1, A3, cw - 1, r, setK x n o, by go_num, by omega, rfl, HCW3.out, WS4, US2, HF2, HX2, BG4, FR3⟩
          case measure => simp [intOf]; omega
    · obtain rfl : a = (atK k).length := by omega
      have HF2 : Aside0 (fillNums (atK k) ws ⟨k, 0, 0, 0, 0, 0, 0, []⟩ = some (x, us)) := ⟨by rw [HF.out, List.drop_length]; rfl⟩
      have FRW := Aside0.mk ((Fr.of_below HWL.out).trans (FR.out.mono HWL.out.size))
      have z3 : wr.cell? ⟨g4, 3, none⟩ = some (.slice none 0 0) := (blk_cell (FR.out.blk BF.out (Nat.le_refl _) NF.out) 3).trans rfl
      clear HF ha hlt
      have HFO : Aside0 (fillOf k ws = fillRest (x, us)) := ⟨by unfold fillOf; rw [HF2.out]; simp only [Option.bind_some]; rw [show fillWord k (x, us) = some (x, us) by unfold fillWord; rw [HCL.out]; rfl]; rfl⟩
      go_wp2_with (fail)
      obtain ⟨wl2, rfl⟩ : ∃ wl2 : World, wl2 = wr := ⟨_, rfl⟩
      clear z3 HF2
      have UL : Aside0 (us.length ≤ 4294967296) := ⟨Nat.le_trans US.out.1 HLEN.out⟩
      have GL2 := Aside0.mk (blk_lt BG.out)
      go_loopw [77] (fun i wr => ∃ (a : Nat) (ns : List Int) (un : Value), i = .int .i64 a ∧ a ≤ us.length ∧ Aside0 (numsIn us = (numsIn (us.drop a)).map (ns ++ ·)) ∧ Aside0 (ns.length = a) ∧ Aside0 (wr.heap[g]? = some (.cells (evC x un) 24 (0, 0))) ∧ Aside0 (Kd.R (Kd.int .i64) 3 wr wl2.heap.size (fun k => wl2.heap.size ≤ k) un ns) ∧ Aside0 (Fr wl2.heap.size g wl2 wr)) (fun i _ => us.length - (intOf i).toNat)
      case atStart => exact ⟨0, [], _, rfl, by omega, ⟨by rw [List.drop_zero]; cases numsIn us <;> simp⟩, ⟨rfl⟩, BG, ⟨Kd.R_nil _ _ _ _ _⟩, ⟨⟨rfl, rfl, rfl, Nat.le_refl _, fun _ _ _ => rfl⟩⟩⟩
      case round =>
        clear BG
        obtain ⟨a, ns, un, rfl, ha, HN, HNL, BG, HO, FR2⟩ := hrel
        have hul := UL.out
        have FRX := Aside0.mk (FRW.out.trans (FR2.out.mono FRW.out.size))
        obtain ⟨Au, cu, rfl⟩ := Kd.R_slice HO.out
        by_cases hlt : a < us.length
        · obtain ⟨t, ht⟩ : ∃ t, us[a]? = some t := ⟨_, List.getElem?_eq_getElem hlt⟩
          obtain ⟨adw, hAw, hcw⟩ := WS.out.2 a t ht
          have had := WS.out.1 adw hAw
          subst hAw
          have x1 : wr.cell? (adw.add a) = some (.string t) := FR2.out.cell hcw (Nat.le_refl _) (by rw [add_block]; exact had)
          have HTS := Aside0.mk (HSZ.out t (US.out.2 t (List.mem_of_getElem? ht)))
          have HLW : Aside0 (LW wr) := ⟨HL.out.below (HB0.out.trans (FRX.out.below HB0.out.size HG0.out))⟩
          have HDR := Aside0.mk (nums_some ht)
          clear hcw had ht
          cases hn : numOf t with
          | none =>
            have HNN := Aside0.mk hn
            have HR : Aside0 (fillOf k ws = none) := ⟨by rw [HFO.out]; unfold fillRest; simp only; rw [HN.out, HDR.out, numsIn, HNN.out]; rfl⟩
            clear hn
            go_wp2_with (go_at_call 58; refine (number_no t HNN.out _ HLW.out HTS.out).mono ?_; rintro e w3 ⟨⟨v3, rfl⟩, hb⟩; have NB := Aside0.mk hb; clear hb)
            go_ret
            rw [HR.out]
            exact ⟨rfl, ⟨_, _, _, _, blk_below BG.out NB.out⟩, FRX.out.trans (Fr.of_below (NB.out.mono FRX.out.size))⟩
          | some n =>
            have HNN := Aside0.mk hn
            have HN2 : Aside0 (numsIn us = (numsIn (us.drop (a + 1))).map ((ns ++ [n]) ++ ·)) := ⟨by rw [HN.out, HDR.out, numsIn, HNN.out]; cases numsIn (us.drop (a + 1)) <;> simp⟩
            have HTL : Aside0 ((ns.length + 1) * 8 ≤ 140737488355328) := ⟨by rw [HNL.out]; omega⟩
            clear hn
            go_wp2_with (first
              | (go_at_call 58; refine (number_yes t n HNN.out _ HLW.out HTS.out).mono ?_; rintro e w3 ⟨rfl, hb⟩; have NB := Aside0.mk hb; clear hb; have BG3 := Aside0.mk (blk_below BG.out NB.out); have HO3 := Aside0.mk (Kd.R_below HO.out NB.out); have x7 : w3.cell? ⟨g, 7, none⟩ = some (.slice Au ns.length cu) := (blk_cell BG3.out 7).trans rfl)
              | ((with_reducible refine gate_builtin (b := .append) (xs := #[.tmp 92, .tmp 94]) rfl ?_); at_builtin; refine Kd.R_append (Kd.int .i64) (w0 := w3) wl2.heap.size rfl (.tmp 92) (.tmp 94) 22 3 (.int .i64 0) 8 rfl Tryd.underlying22 info3 rfl (by decide) (by omega) (.slice Au ns.length cu) ns n [.int .i64 n] (fun k => wl2.heap.size ≤ k) (fun _ => False) rfl rfl rfl (fun _ h => h.elim) (fun k hk => Nat.le_trans (Nat.le_trans FR2.out.size NB.out.size) hk) HO3.out (Below.refl _ _) (Nat.le_trans FR2.out.size NB.out.size) HTL.out ?_; intro v4 w4 ho hb _ _; obtain ⟨Av, cv, rfl⟩ := Kd.R_slice ho; have HO4 := Aside0.mk ho; have NB4 := Aside0.mk hb; clear ho hb; have BG4 : Aside0 (w4.heap[g]? = some (.cells (evC x (.slice Au ns.length cu)) 24 (0, 0))) := ⟨(NB4.out.block g GL2.out).trans BG3.out⟩; have x8 : w4.cell? ⟨g, 7, none⟩ = some (.slice Au ns.length cu) := (blk_cell BG4.out 7).trans rfl; have x9 : w4.frozen? ⟨g, 7, none⟩ = false := Lib.frozen_of_heap BG4.out 7))
            have HO5 : Aside0 (Kd.R (Kd.int .i64) 3 (w4.setCell ⟨g, 7, none⟩ (.slice Av (ns ++ [n]).length cv)) wl2.heap.size (fun k => wl2.heap.size ≤ k) (.slice Av (ns ++ [n]).length cv) (ns ++ [n])) := ⟨Kd.R_far HO4.out (fun k hk => Nat.ne_of_gt (Nat.lt_of_lt_of_le GL2.out hk)) _⟩
            have BG5 : Aside0 ((w4.setCell ⟨g, 7, none⟩ (.slice Av (ns ++ [n]).length cv)).heap[g]? = some (.cells (evC x (.slice Av (ns ++ [n]).length cv)) 24 (0, 0))) := ⟨blk_put BG4.out 7 _ rfl⟩
            have FR5 := Aside0.mk (fr_set ((FR2.out.trans (Fr.of_below (NB.out.mono FR2.out.size))).trans (Fr.of_below NB4.out)) 7 (.slice Av (ns ++ [n]).length cv))
            simp only [List.length_append, List.length_cons, List.length_nil, Nat.zero_add] at HO5 BG5 FR5
            go_roundw
            case rel => exact ⟨a + 1, ns ++ [n], _, by go_num, by omega, HN2, ⟨by rw [List.length_append, HNL.out]; rfl⟩, BG5, HO5, FR5⟩
            case measure => simp [intOf]; omega
        · obtain rfl : a = us.length := by omega
          have HNS : Aside0 (numsIn us = some ns) := ⟨by rw [HN.out, List.drop_length]; simp [numsIn]⟩
          obtain ⟨_, hcu, hC⟩ := Kd.R_reads' HO.out
          have HC := Aside0.mk hC
          have HCU := Aside0.mk hcu
          obtain ⟨y, hy⟩ : ∃ y : S24, y = ⟨x.f0, x.f1, x.f2, x.f3, x.f4, x.f5, x.f6, ns⟩ := ⟨_, rfl⟩
          have HY := Aside0.mk hy
          clear hC hcu hy hlt ha
          cases hok : okX y with
          | true =>
            have HCK : Aside0 (checkOf ⟨x.f0, x.f1, x.f2, x.f3, x.f4, x.f5, x.f6, ns⟩ = 0) := ⟨by rw [← HY.out, checkOf_ok, hok]; rfl⟩
            have HR : Aside0 (fillOf k ws = some y) := ⟨by rw [HFO.out]; unfold fillRest; simp only; rw [HNS.out]; simp only [Option.bind_some]; rw [← HY.out, if_pos hok]⟩
            clear hok
            go_wp2_with (first
              | (refine wpList_load_row rfl 24 (.tmp 100) rfl g rfl 24 (evC x (.slice Au ns.length cu)) (0, 0) _ BG.out Tryd.underlying24 rfl (by kernel_rfl) ?_)
              | (go_at_call 10; refine (chk_any ⟨x.f0, x.f1, x.f2, x.f3, x.f4, x.f5, x.f6, ns⟩ Au cu _ HC.out HCU.out).mono ?_; rw [HCK.out]; rintro e w5 ⟨rfl, hb⟩; have NB := Aside0.mk hb; clear hb))
            go_ret
            rw [HR.out]
            exact ⟨rfl, ⟨_, by rw [HY.out]; exact blk_below BG.out NB.out, by rw [HY.out]; exact Kd.R_mono (Kd.R_lower (Kd.R_below HO.out NB.out) FRW.out.size) (fun k hk => Nat.le_trans FRW.out.size hk)⟩, FRX.out.trans (Fr.of_below (NB.out.mono FRX.out.size))⟩
          | false =>
            have HCK : Aside0 (checkOf ⟨x.f0, x.f1, x.f2, x.f3, x.f4, x.f5, x.f6, ns⟩ = 180) := ⟨by rw [← HY.out, checkOf_ok, hok]; rfl⟩
            have HR : Aside0 (fillOf k ws = none) := ⟨by rw [HFO.out]; unfold fillRest; simp only; rw [HNS.out]; simp only [Option.bind_some]; rw [← HY.out, if_neg (by rw [hok]; decide)]⟩
            clear hok
            go_wp2_with (first
              | (refine wpList_load_row rfl 24 (.tmp 100) rfl g rfl 24 (evC x (.slice Au ns.length cu)) (0, 0) _ BG.out Tryd.underlying24 rfl (by kernel_rfl) ?_)
              | (go_at_call 10; refine (chk_any ⟨x.f0, x.f1, x.f2, x.f3, x.f4, x.f5, x.f6, ns⟩ Au cu _ HC.out HCU.out).mono ?_; rw [HCK.out]; rintro e w5 ⟨rfl, hb⟩; have NB := Aside0.mk hb; clear hb))
            go_ret
            rw [HR.out]
            exact ⟨rfl, ⟨_, _, _, _, blk_below BG.out NB.out⟩, FRX.out.trans (Fr.of_below (NB.out.mono FRX.out.size))⟩
set_option maxRecDepth 100000 in
set_option maxHeartbeats 16000000 in
theorem fill_c2 (k : Nat) (h1 : 1 ≤ k) (h2 : k ≤ 11) (hc : clsK k = 2) (g : Nat) (AF A2 : Option Addr) (c2 : Nat) (bW : Nat) (ws : List ByteArray) (w w0 : World) (hL : LW w0) (hB0 : Below w0.heap.size w0 w) (hg0 : w0.heap.size ≤ g) (hg : w.heap[g]? = some (.cells (evC ⟨k, 0, 0, 0, 0, 0, 0, []⟩ (.slice none 0 0)) 24 (0, 0)))
    (hF : ∀ (j o : Nat), (foK k)[j]? = some o → ∃ ad, AF = some ad ∧ ad.block ≠ g ∧ w.cell? (ad.add j) = some (.pointer (some ⟨g, o, none⟩))) (hW : w.heap[bW]? = some (.cells ((wsK k).map Value.string).toArray 9 (0, 0))) (hWg : bW ≠ g) (hws : WordsIn w g A2 ws) (hcap : ws.length ≤ c2) (hlen : ws.length ≤ 4294967296) (hsz : ∀ t ∈ ws, t.size ≤ 281474976710656) :
    Calls Tryd.prog 49 #[.pointer (some ⟨g, 0, none⟩), .agg #[.string (wordB k), .slice AF (foK k).length (foK k).length, .pointer none, .slice (some ⟨bW, 0, none⟩) (wsK k).length (wsK k).length, .pointer (some ⟨g, 6, none⟩), .bool false], .slice A2 ws.length c2] w (FillSays w g (fillOf k ws)) := by
  have hu24 := Tryd.underlying24
  have hu48 := Tryd.underlying48
  have hu46 := Tryd.underlying46
  have HL := Aside0.mk hL
  have HB0 := Aside0.mk hB0
  have HG0 := Aside0.mk hg0
  have HCL := Aside0.mk hc
  have HLEN := Aside0.mk hlen
  have HSZ := Aside0.mk hsz
  have hfl := fo_len k
  have GW := Aside0.mk (blk_lt hg)
  have BG0 := Aside0.mk (blk_below hg (bel1 w (.cells #[.string (wordB k), .slice AF (foK k).length (foK k).length, .pointer none, .slice (some ⟨bW, 0, none⟩) (wsK k).length (wsK k).length, .pointer (some ⟨g, 6, none⟩), .bool false] 48)))
  have FF0 := Aside0.mk (fun j o hj => by obtain ⟨ad, e1, e2, e3⟩ := hF j o hj; exact ⟨ad, e1, e2, pw_cell_below (bel1 w (.cells #[.string (wordB k), .slice AF (foK k).length (foK k).length, .pointer none, .slice (some ⟨bW, 0, none⟩) (wsK k).length (wsK k).length, .pointer (some ⟨g, 6, none⟩), .bool false] 48)) e3⟩ : ∀ (j o : Nat), (foK k)[j]? = some o → ∃ ad, AF = some ad ∧ ad.block ≠ g ∧ (w.alloc (.cells #[.string (wordB k), .slice AF (foK k).length (foK k).length, .pointer none, .slice (some ⟨bW, 0, none⟩) (wsK k).length (wsK k).length, .pointer (some ⟨g, 6, none⟩), .bool false] 48)).cell? (ad.add j) = some (.pointer (some ⟨g, o, none⟩)))
  have WS0 := Aside0.mk (hws.below (bel1 w (.cells #[.string (wordB k), .slice AF (foK k).length (foK k).length, .pointer none, .slice (some ⟨bW, 0, none⟩) (wsK k).length (wsK k).length, .pointer (some ⟨g, 6, none⟩), .bool false] 48)))
  have BW0 := Aside0.mk (blk_below hW (bel1 w (.cells #[.string (wordB k), .slice AF (foK k).length (foK k).length, .pointer none, .slice (some ⟨bW, 0, none⟩) (wsK k).length (wsK k).length, .pointer (some ⟨g, 6, none⟩), .bool false] 48)))
  have NW := Aside0.mk hWg
  clear hW hWg
  have BF0 := Aside0.mk (heap_alloc_new w (.cells #[.string (wordB k), .slice AF (foK k).length (foK k).length, .pointer none, .slice (some ⟨bW, 0, none⟩) (wsK k).length (wsK k).length, .pointer (some ⟨g, 6, none⟩), .bool false] 48))
  have NF := Aside0.mk (show w.heap.size ≠ g from Nat.ne_of_gt (blk_lt hg))
  have HZ := Aside0.mk (bel1 w (.cells #[.string (wordB k), .slice AF (foK k).length (foK k).length, .pointer none, .slice (some ⟨bW, 0, none⟩) (wsK k).length (wsK k).length, .pointer (some ⟨g, 6, none⟩), .bool false] 48))
  have GZ := Aside0.mk (show g < (w.alloc (.cells #[.string (wordB k), .slice AF (foK k).length (foK k).length, .pointer none, .slice (some ⟨bW, 0, none⟩) (wsK k).length (wsK k).length, .pointer (some ⟨g, 6, none⟩), .bool false] 48)).heap.size by have := blk_lt hg; rw [size_alloc]; omega)
  have HCAP := Aside0.mk hcap
  clear hL hB0 hg0 hc hlen hsz hg hF hws hcap
  go_enter Tryd.func49, Tryd.ntmps49
  go_upto_region 2 with (fail)
  generalize w.heap.size = g4 at BF0 NF ⊢
  generalize w.alloc (.cells #[.string (wordB k), .slice AF (foK k).length (foK k).length, .pointer none, .slice (some ⟨bW, 0, none⟩) (wsK k).length (wsK k).length, .pointer (some ⟨g, 6, none⟩), .bool false] 48) = wz at *
  have y1 : wz.cell? ⟨g4, 1, none⟩ = some (.slice AF (foK k).length (foK k).length) := (blk_cell BF0.out 1).trans rfl
  have y2 : wz.cell? ⟨g4, 2, none⟩ = some (.pointer none) := (blk_cell BF0.out 2).trans rfl
  have KC := Aside0.mk (kp_C (by omega) FF0.out)
  obtain ⟨v0, hv0⟩ : ∃ v, v = Value.slice none 0 0 := ⟨_, rfl⟩
  rw [← hv0]
  have HV0 : Aside0 (Kd.R (kp g) 45 wz wz.heap.size (fun _ => True) v0 []) := ⟨by rw [hv0]; exact Kd.R_nil _ _ _ _ _⟩
  clear hv0
  go_wp2_with (first
    | ((with_reducible refine gate_builtin (b := .append) (xs := #[.tmp 16, .tmp 18]) rfl ?_); at_builtin; refine Kd.R_append_rows (kp g) (w0 := wz) wz.heap.size rfl (.tmp 16) (.tmp 18) 44 45 (.pointer none) 8 rfl Tryd.underlying44 info45 rfl Nat.one_pos (by omega) v0 ([] : List Nat) (foK k) AF (foK k).length (foK k).length (fun _ => True) (fun _ => False) rfl rfl HV0.out KC.out (fun _ _ h => h) (fun _ h => h.elim) (fun _ _ => trivial) (Below.refl _ _) (Nat.le_refl _) (by simp only [List.length_nil]; omega) ?_; intro v7 wl ho hb _ _; obtain ⟨Av, cv, rfl⟩ := Kd.R_slice ho; have HO := Aside0.mk ho; have HB1 := Aside0.mk hb; clear ho hb; have z2 : wl.cell? ⟨g4, 2, none⟩ = some (.pointer none) := cell_keep BF0.out HB1.out rfl))
  have HAT : Aside0 (Kd.R (kp g) 45 wl wz.heap.size (fun _ => True) (.slice Av ([] ++ foK k).length cv) (atK k)) := ⟨by have h := HO.out; rw [show atK k = [] ++ foK k by unfold atK; rw [HCL.out]; simp]; exact h⟩
  obtain ⟨Aa, ca, hva, hat⟩ := kp_at HAT.out GZ.out
  have hvl : (foK k).length = (atK k).length := by rw [show atK k = [] ++ foK k by unfold atK; rw [HCL.out]; simp]; simp
  have hvm : ([] ++ foK k).length = (atK k).length := by rw [show atK k = [] ++ foK k by unfold atK; rw [HCL.out]; simp]
  rw [hvm] at hva
  rw [hvl]
  (try rw [show ((foK k).length : Int) + 1 = ((atK k).length : Int) by omega])
  injection hva with hva1 _ hva3
  subst hva1 hva3
  clear hvm
  clear hvl
  have AT := Aside0.mk hat
  have HWL := Aside0.mk (HZ.out.trans (HB1.out.mono HZ.out.size))
  have BG := Aside0.mk (blk_below BG0.out HB1.out)
  have BF := Aside0.mk (blk_below BF0.out HB1.out)
  have WS := Aside0.mk (WS0.out.below HB1.out)
  have GL := Aside0.mk (blk_lt BG.out)
  have hal := at_len k
  have BW := Aside0.mk (blk_below BW0.out HB1.out)
  clear BW0
  clear hat HO HAT HV0 BG0 BF0 WS0 FF0 KC HB1 HZ y1 y2 z2
  go_loopw [2, 30] (fun v2 i wr => ∃ (a : Nat) (Aw : Option Addr) (cw : Nat) (us : List ByteArray) (x : S24), i = .int .i64 a ∧ a ≤ (atK k).length ∧ v2 = .slice Aw us.length cw ∧ us.length ≤ cw ∧ Aside0 (WordsIn wr g Aw us) ∧ Aside0 (us.length ≤ ws.length ∧ ∀ t ∈ us, t ∈ ws) ∧ Aside0 (fillNums (atK k) ws ⟨k, 0, 0, 0, 0, 0, 0, []⟩ = fillNums ((atK k).drop a) us x) ∧ Aside0 (x.f0 = k ∧ x.f7 = []) ∧ Aside0 (wr.heap[g]? = some (.cells (evC x (.slice none 0 0)) 24 (0, 0))) ∧ Aside0 (Fr wl.heap.size g wl wr)) (fun _ i _ => (atK k).length - (intOf i).toNat)
  case atStart => exact ⟨0, A2, c2, ws, _, rfl, by omega, rfl, HCAP.out, WS, ⟨Nat.le_refl _, fun _ h => h⟩, ⟨rfl⟩, ⟨rfl, rfl⟩, BG, ⟨⟨rfl, rfl, rfl, Nat.le_refl _, fun _ _ _ => rfl⟩⟩⟩
  case round =>
    clear BG WS
    obtain ⟨a, Aw, cw, us, x, rfl, ha, rfl, hcw, WS, US, HF, HX, BG, FR⟩ := hrel
    have hlm : us.length ≤ 4294967296 := Nat.le_trans US.out.1 HLEN.out
    by_cases hlt : a < (atK k).length
    · obtain ⟨o, ho⟩ : ∃ o, (atK k)[a]? = some o := ⟨_, List.getElem?_eq_getElem hlt⟩
      obtain ⟨ad1, hA1, hn1, hc1⟩ := AT.out a o ho
      subst hA1
      have HO6 := Aside0.mk (at_le k o (List.mem_of_getElem? ho))
      have HDR : Aside0 ((atK k).drop a = o :: (atK k).drop (a + 1)) := ⟨by obtain ⟨hl, rfl⟩ := List.getElem?_eq_some_iff.1 ho; exact List.drop_eq_getElem_cons hl⟩
      have x1 : wr.cell? (ad1.add a) = some (.pointer (some ⟨g, o, none⟩)) := FR.out.cell hc1 (Nat.le_refl _) (by rw [add_block]; exact hn1)
      have x2 : wr.cell? ⟨g, o, none⟩ = some (.int .i64 (getK x o)) := (blk_cell BG.out o).trans (ev_get x _ o HO6.out.1 HO6.out.2)
      clear hc1 hn1 ho
      cases us with
      | nil =>
        have HR : Aside0 (fillOf k ws = none) := ⟨by unfold fillOf; rw [HF.out, HDR.out]; rfl⟩
        simp only [List.length_nil] at hcw ⊢
        go_wp2_with (fail)
        go_ret
        rw [HR.out]
        exact ⟨rfl, ⟨_, _, _, _, BG.out⟩, (Fr.of_below HWL.out).trans (FR.out.mono HWL.out.size)⟩
      | cons t r =>
        simp only [List.length_cons] at hcw hlm ⊢
        obtain ⟨ad2, hA2, hw2⟩ := WS.out.2 0 t rfl
        subst hA2
        have x3 : wr.cell? ad2 = some (.string t) := hw2
        have HTS := Aside0.mk (HSZ.out t (US.out.2 t (List.mem_cons_self ..)))
        have FRW := Aside0.mk ((Fr.of_below HWL.out).trans (FR.out.mono HWL.out.size))
        have HLW : Aside0 (LW wr) := ⟨HL.out.below (HB0.out.trans (FRW.out.below HB0.out.size HG0.out))⟩
        cases hn : numOf t with
        | none =>
          have HN := Aside0.mk hn
          have HR : Aside0 (fillOf k ws = none) := ⟨by unfold fillOf; rw [HF.out, HDR.out, fillNums, HN.out]; rfl⟩
          clear hn
          go_wp2_with (go_at_call 58; refine (number_no t HN.out _ HLW.out HTS.out).mono ?_; rintro e w3 ⟨⟨v3, rfl⟩, hb⟩; have NB := Aside0.mk hb; clear hb)
          go_ret
          rw [HR.out]
          exact ⟨rfl, ⟨_, _, _, _, blk_below BG.out NB.out⟩, FRW.out.trans (Fr.of_below (NB.out.mono FRW.out.size))⟩
        | some n =>
          have HN := Aside0.mk hn
          have HF2 : Aside0 (fillNums (atK k) ws ⟨k, 0, 0, 0, 0, 0, 0, []⟩ = fillNums ((atK k).drop (a + 1)) r (setK x n o)) := ⟨by rw [HF.out, HDR.out, fillNums, HN.out]⟩
          have HX2 : Aside0 ((setK x n o).f0 = k ∧ (setK x n o).f7 = []) := ⟨by rw [setK_f0, setK_f7]; exact HX.out⟩
          obtain ⟨A3, hsl, hw3⟩ := words_tail WS.out cw (by omega)
          have WS3 := Aside0.mk hw3
          have US2 : Aside0 (r.length ≤ ws.length ∧ ∀ t ∈ r, t ∈ ws) := ⟨by have h1 := US.out.1; have h2 := US.out.2; simp only [List.length_cons] at h1; exact ⟨by omega, fun q hq => h2 q (List.mem_cons_of_mem _ hq)⟩⟩
          have hcw3 : r.length ≤ cw - 1 := by omega
          have HCW3 := Aside0.mk hcw3
          clear hn hw3 hcw3
          go_wp2_with (go_at_call 58; refine (number_yes t n HN.out _ HLW.out HTS.out).mono ?_; rintro e w3 ⟨rfl, hb⟩; have NB := Aside0.mk hb; clear hb; have BG3 := Aside0.mk (blk_below BG.out NB.out); have x4 : w3.cell? ⟨g, o, none⟩ = some (.int .i64 (getK x o)) := (blk_cell BG3.out o).trans (ev_get x _ o HO6.out.1 HO6.out.2); have x5 : w3.frozen? ⟨g, o, none⟩ = false := Lib.frozen_of_heap BG3.out o)
          have FR3 := Aside0.mk (fr_set (FR.out.trans (Fr.of_below (NB.out.mono FR.out.size))) o (.int .i64 n))
          have BG4 : Aside0 ((w3.setCell ⟨g, o, none⟩ (.int .i64 n)).heap[g]? = some (.cells (evC (setK x n o) (.slice none 0 0)) 24 (0, 0))) := ⟨blk_put BG3.out o _ (setK_cells x _ n o HO6.out.1 HO6.out.2)⟩
          have WS4 := Aside0.mk ((WS3.out.below NB.out).fr (base := w3.heap.size) (w' := w3.setCell ⟨g, o, none⟩ (.int .i64 n)) (fr_set ⟨rfl, rfl, rfl, Nat.le_refl _, fun _ _ _ => rfl⟩ o _) (Nat.le_refl _))
          go_roundw
          case rel => exact ⟨a + 1, A3, cw - 1, r, setK x n o, by go_num, by omega, rfl, HCW3.out, WS4, US2, HF2, HX2, BG4, FR3⟩
          case measure => simp [intOf]; omega
    · obtain rfl : a = (atK k).length := by omega
      have HF2 : Aside0 (fillNums (atK k) ws ⟨k, 0, 0, 0, 0, 0, 0, []⟩ = some (x, us)) := ⟨by rw [HF.out, List.drop_length]; rfl⟩
      have FRW := Aside0.mk ((Fr.of_below HWL.out).trans (FR.out.mono HWL.out.size))
      have z3 : wr.cell? ⟨g4, 3, none⟩ = some (.slice (some ⟨bW, 0, none⟩) (wsK k).length (wsK k).length) := (blk_cell (FR.out.blk BF.out (Nat.le_refl _) NF.out) 3).trans rfl
      clear HF ha hlt
      have HWX : Aside0 (wsK k = wsK k) := ⟨rfl⟩
      cases us with
      | nil =>
        have HR : Aside0 (fillOf k ws = none) := ⟨by unfold fillOf; rw [HF2.out]; simp only [Option.bind_some]; rw [show fillWord k (x, []) = none by unfold fillWord; rw [HCL.out]; rfl]; rfl⟩
        simp only [List.length_nil] at hcw ⊢
        go_wp2_with (fail)
        go_ret
        rw [HR.out]
        exact ⟨rfl, ⟨_, _, _, _, BG.out⟩, FRW.out⟩
      | cons t r =>
        simp only [List.length_cons] at hcw hlm ⊢
        obtain ⟨ad2, hA2, hw2⟩ := WS.out.2 0 t rfl
        subst hA2
        have x3 : wr.cell? ad2 = some (.string t) := hw2
        by_cases hte : t.toList = []
        · have HR : Aside0 (fillOf k ws = none) := ⟨by unfold fillOf; rw [HF2.out]; simp only [Option.bind_some]; rw [show fillWord k (x, t :: r) = none by unfold fillWord; rw [HCL.out]; simp only; rw [if_pos True.intro, if_pos hte]]; rfl⟩
          have hte2 : t.toList.isEmpty = true := by rw [hte]; rfl
          clear hw2
          go_wp2_with (fail)
          go_ret
          rw [HR.out]
          exact ⟨rfl, ⟨_, _, _, _, BG.out⟩, FRW.out⟩
        · obtain ⟨n, hn⟩ : ∃ n, n = idxB (wsK k) t 0 := ⟨_, rfl⟩
          have HFO : Aside0 (fillOf k ws = fillRest (setK x n 6, r)) := ⟨by unfold fillOf; rw [HF2.out]; simp only [Option.bind_some]; rw [show fillWord k (x, t :: r) = some (setK x n 6, r) by unfold fillWord; rw [HCL.out]; simp only; rw [if_pos True.intro, if_neg hte, hn]]; rfl⟩
          have HNI := Aside0.mk hn
          have hte2 : t.toList.isEmpty = false := by cases h : t.toList with | nil => exact absurd h hte | cons _ _ => rfl
          have HX2 : Aside0 ((setK x n 6).f0 = k ∧ (setK x n 6).f7 = []) := ⟨by rw [setK_f0, setK_f7]; exact HX.out⟩
          obtain ⟨A3, hsl, hw3⟩ := words_tail WS.out cw (by omega)
          have WS3 := Aside0.mk hw3
          have US2 : Aside0 (r.length ≤ ws.length ∧ ∀ t ∈ r, t ∈ ws) := ⟨by have h1 := US.out.1; have h2 := US.out.2; simp only [List.length_cons] at h1; exact ⟨by omega, fun q hq => h2 q (List.mem_cons_of_mem _ hq)⟩⟩
          have BWR := Aside0.mk (FR.out.blk BW.out (Nat.le_refl _) NW.out)
          have z4 : wr.cell? ⟨g4, 4, none⟩ = some (.pointer (some ⟨g, 6, none⟩)) := (blk_cell (FR.out.blk BF.out (Nat.le_refl _) NF.out) 4).trans rfl
          have x6 : wr.cell? ⟨g, 6, none⟩ = some (.int .i64 x.f6) := (blk_cell BG.out 6).trans rfl
          have HWN := Aside0.mk (ws_len k)
          have XWS : Aside0 (wr.cell? ad2 = some (.string t)) := ⟨x3⟩
          clear hw2 hw3 hn hte
          go_wp2_with (fail)
          go_cut [2] (fun v2 wc => v2 = .slice (some ad2) (r.length + 1) cw ∧ Aside0 (wc.heap[g]? = some (.cells (evC (setK x n 6) (.slice none 0 0)) 24 (0, 0))) ∧ Aside0 (Fr wr.heap.size g wr wc))
          case first =>
            go_region_with (go_at_call 59; refine (index_any bW (wsK k) t _ HWN.out (by exact BWR.out)).mono ?_; rw [← HNI.out]; rintro e w5 ⟨rfl, hd⟩; have NB := Aside0.mk hd.below; have x3' : w5.cell? ad2 = some (.string t) := pw_cell_below hd.below XWS.out; have z4' : w5.cell? ⟨g4, 4, none⟩ = some (.pointer (some ⟨g, 6, none⟩)) := pw_cell_below hd.below z4; have x6' : w5.cell? ⟨g, 6, none⟩ = some (.int .i64 x.f6) := pw_cell_below hd.below x6; have BG5 := Aside0.mk (blk_below (w := wr.drew) BG.out hd.below); have f6' : w5.frozen? ⟨g, 6, none⟩ = false := Lib.frozen_of_heap BG5.out 6; clear hd)
            all_goals go_wp2_with (fail)
            all_goals go_meet
            all_goals exact ⟨rfl, ⟨blk_put (w := w5) BG5.out 6 _ rfl⟩, ⟨fr_set (w1 := w5) (Fr.of_below (show Below wr.heap.size wr w5 from ⟨NB.out.os, NB.out.tape, NB.out.output, NB.out.size, NB.out.block⟩)) 6 (.int .i64 n)⟩⟩
          case rest =>
            obtain ⟨rfl, BG2, FR2⟩ := hcut
            have FRW2 := Aside0.mk (FRW.out.trans (FR2.out.mono FRW.out.size))
            have WSN := Aside0.mk (WS3.out.fr FR2.out (Nat.le_refl _))
            clear BG FRW WS US z3 z4 x3 x6 hte2
            have BG := BG2
            have FRW := FRW2
            have WS := WSN
            have US := US2
            obtain ⟨x', hx'⟩ : ∃ x', x' = setK x n 6 := ⟨_, rfl⟩
            rw [← hx'] at BG HFO HX2 BG2
            clear hx' BG2 FRW2 WSN US2 FR2
            go_wp2_with (fail)
            obtain ⟨wl2, rfl⟩ : ∃ wl2 : World, wl2 = wc := ⟨_, rfl⟩
            have UL : Aside0 (r.length ≤ 4294967296) := ⟨Nat.le_trans US.out.1 HLEN.out⟩
            have GL2 := Aside0.mk (blk_lt BG.out)
            go_loopw [77] (fun i wr => ∃ (a : Nat) (ns : List Int) (un : Value), i = .int .i64 a ∧ a ≤ r.length ∧ Aside0 (numsIn r = (numsIn (r.drop a)).map (ns ++ ·)) ∧ Aside0 (ns.length = a) ∧ Aside0 (wr.heap[g]? = some (.cells (evC x' un) 24 (0, 0))) ∧ Aside0 (Kd.R (Kd.int .i64) 3 wr wl2.heap.size (fun k => wl2.heap.size ≤ k) un ns) ∧ Aside0 (Fr wl2.heap.size g wl2 wr)) (fun i _ => r.length - (intOf i).toNat)
            case atStart => exact ⟨0, [], _, rfl, by omega, ⟨by rw [List.drop_zero]; cases numsIn r <;> simp⟩, ⟨rfl⟩, BG, ⟨Kd.R_nil _ _ _ _ _⟩, ⟨⟨rfl, rfl, rfl, Nat.le_refl _, fun _ _ _ => rfl⟩⟩⟩
            case round =>
              clear BG
              obtain ⟨a, ns, un, rfl, ha, HN, HNL, BG, HO, FR2⟩ := hrel
              have hul := UL.out
              have FRX := Aside0.mk (FRW.out.trans (FR2.out.mono FRW.out.size))
              obtain ⟨Au, cu, rfl⟩ := Kd.R_slice HO.out
              by_cases hlt : a < r.length
              · obtain ⟨t, ht⟩ : ∃ t, r[a]? = some t := ⟨_, List.getElem?_eq_getElem hlt⟩
                obtain ⟨adw, hAw, hcw⟩ := WS.out.2 a t ht
                have had := WS.out.1 adw hAw
                subst hAw
                have x1 : wr.cell? (adw.add a) = some (.string t) := FR2.out.cell hcw (Nat.le_refl _) (by rw [add_block]; exact had)
                have HTS := Aside0.mk (HSZ.out t (US.out.2 t (List.mem_of_getElem? ht)))
                have HLW : Aside0 (LW wr) := ⟨HL.out.below (HB0.out.trans (FRX.out.below HB0.out.size HG0.out))⟩
                have HDR := Aside0.mk (nums_some ht)
                clear hcw had ht
                cases hn : numOf t with
                | none =>
                  have HNN := Aside0.mk hn
                  have HR : Aside0 (fillOf k ws = none) := ⟨by rw [HFO.out]; unfold fillRest; simp only; rw [HN.out, HDR.out, numsIn, HNN.out]; rfl⟩
                  clear hn
                  go_wp2_with (go_at_call 58; refine (number_no t HNN.out _ HLW.out HTS.out).mono ?_; rintro e w3 ⟨⟨v3, rfl⟩, hb⟩; have NB := Aside0.mk hb; clear hb)
                  go_ret
                  rw [HR.out]
                  exact ⟨rfl, ⟨_, _, _, _, blk_below BG.out NB.out⟩, FRX.out.trans (Fr.of_below (NB.out.mono FRX.out.size))⟩
                | some n =>
                  have HNN := Aside0.mk hn
                  have HN2 : Aside0 (numsIn r = (numsIn (r.drop (a + 1))).map ((ns ++ [n]) ++ ·)) := ⟨by rw [HN.out, HDR.out, numsIn, HNN.out]; cases numsIn (r.drop (a + 1)) <;> simp⟩
                  have HTL : Aside0 ((ns.length + 1) * 8 ≤ 140737488355328) := ⟨by rw [HNL.out]; omega⟩
                  clear hn
                  go_wp2_with (first
                    | (go_at_call 58; refine (number_yes t n HNN.out _ HLW.out HTS.out).mono ?_; rintro e w3 ⟨rfl, hb⟩; have NB := Aside0.mk hb; clear hb; have BG3 := Aside0.mk (blk_below BG.out NB.out); have HO3 := Aside0.mk (Kd.R_below HO.out NB.out); have x7 : w3.cell? ⟨g, 7, none⟩ = some (.slice Au ns.length cu) := (blk_cell BG3.out 7).trans rfl)
                    | ((with_reducible refine gate_builtin (b := .append) (xs := #[.tmp 92, .tmp 94]) rfl ?_); at_builtin; refine Kd.R_append (Kd.int .i64) (w0 := w3) wl2.heap.size rfl (.tmp 92) (.tmp 94) 22 3 (.int .i64 0) 8 rfl Tryd.underlying22 info3 rfl (by decide) (by omega) (.slice Au ns.length cu) ns n [.int .i64 n] (fun k => wl2.heap.size ≤ k) (fun _ => False) rfl rfl rfl (fun _ h => h.elim) (fun k hk => Nat.le_trans (Nat.le_trans FR2.out.size NB.out.size) hk) HO3.out (Below.refl _ _) (Nat.le_trans FR2.out.size NB.out.size) HTL.out ?_; intro v4 w4 ho hb _ _; obtain ⟨Av, cv, rfl⟩ := Kd.R_slice ho; have HO4 := Aside0.mk ho; have NB4 := Aside0.mk hb; clear ho hb; have BG4 : Aside0 (w4.heap[g]? = some (.cells (evC x' (.slice Au ns.length cu)) 24 (0, 0))) := ⟨(NB4.out.block g GL2.out).trans BG3.out⟩; have x8 : w4.cell? ⟨g, 7, none⟩ = some (.slice Au ns.length cu) := (blk_cell BG4.out 7).trans rfl; have x9 : w4.frozen? ⟨g, 7, none⟩ = false := Lib.frozen_of_heap BG4.out 7))
                  have HO5 : Aside0 (Kd.R (Kd.int .i64) 3 (w4.setCell ⟨g, 7, none⟩ (.slice Av (ns ++ [n]).length cv)) wl2.heap.size (fun k => wl2.heap.size ≤ k) (.slice Av (ns ++ [n]).length cv) (ns ++ [n])) := ⟨Kd.R_far HO4.out (fun k hk => Nat.ne_of_gt (Nat.lt_of_lt_of_le GL2.out hk)) _⟩
                  have BG5 : Aside0 ((w4.setCell ⟨g, 7, none⟩ (.slice Av (ns ++ [n]).length cv)).heap[g]? = some (.cells (evC x' (.slice Av (ns ++ [n]).length cv)) 24 (0, 0))) := ⟨blk_put BG4.out 7 _ rfl⟩
                  have FR5 := Aside0.mk (fr_set ((FR2.out.trans (Fr.of_below (NB.out.mono FR2.out.size))).trans (Fr.of_below NB4.out)) 7 (.slice Av (ns ++ [n]).length cv))
                  simp only [List.length_append, List.length_cons, List.length_nil, Nat.zero_add] at HO5 BG5 FR5
                  go_roundw
                  case rel => exact ⟨a + 1, ns ++ [n], _, by go_num, by omega, HN2, ⟨by rw [List.length_append, HNL.out]; rfl⟩, BG5, HO5, FR5⟩
                  case measure => simp [intOf]; omega
              · obtain rfl : a = r.length := by omega
                have HNS : Aside0 (numsIn r = some ns) := ⟨by rw [HN.out, List.drop_length]; simp [numsIn]⟩
                obtain ⟨_, hcu, hC⟩ := Kd.R_reads' HO.out
                have HC := Aside0.mk hC
                have HCU := Aside0.mk hcu
                obtain ⟨y, hy⟩ : ∃ y : S24, y = ⟨x'.f0, x'.f1, x'.f2, x'.f3, x'.f4, x'.f5, x'.f6, ns⟩ := ⟨_, rfl⟩
                have HY := Aside0.mk hy
                clear hC hcu hy hlt ha
                cases hok : okX y with
                | true =>
                  have HCK : Aside0 (checkOf ⟨x'.f0, x'.f1, x'.f2, x'.f3, x'.f4, x'.f5, x'.f6, ns⟩ = 0) := ⟨by rw [← HY.out, checkOf_ok, hok]; rfl⟩
                  have HR : Aside0 (fillOf k ws = some y) := ⟨by rw [HFO.out]; unfold fillRest; simp only; rw [HNS.out]; simp only [Option.bind_some]; rw [← HY.out, if_pos hok]⟩
                  clear hok
                  go_wp2_with (first
                    | (refine wpList_load_row rfl 24 (.tmp 100) rfl g rfl 24 (evC x' (.slice Au ns.length cu)) (0, 0) _ BG.out Tryd.underlying24 rfl (by kernel_rfl) ?_)
                    | (go_at_call 10; refine (chk_any ⟨x'.f0, x'.f1, x'.f2, x'.f3, x'.f4, x'.f5, x'.f6, ns⟩ Au cu _ HC.out HCU.out).mono ?_; rw [HCK.out]; rintro e w5 ⟨rfl, hb⟩; have NB := Aside0.mk hb; clear hb))
                  go_ret
                  rw [HR.out]
                  exact ⟨rfl, ⟨_, by rw [HY.out]; exact blk_below BG.out NB.out, by rw [HY.out]; exact Kd.R_mono (Kd.R_lower (Kd.R_below HO.out NB.out) FRW.out.size) (fun k hk => Nat.le_trans FRW.out.size hk)⟩, FRX.out.trans (Fr.of_below (NB.out.mono FRX.out.size))⟩
                | false =>
                  have HCK : Aside0 (checkOf ⟨x'.f0, x'.f1, x'.f2, x'.f3, x'.f4, x'.f5, x'.f6, ns⟩ = 180) := ⟨by rw [← HY.out, checkOf_ok, hok]; rfl⟩
                  have HR : Aside0 (fillOf k ws = none) := ⟨by rw [HFO.out]; unfold fillRest; simp only; rw [HNS.out]; simp only [Option.bind_some]; rw [← HY.out, if_neg (by rw [hok]; decide)]⟩
                  clear hok
                  go_wp2_with (first
                    | (refine wpList_load_row rfl 24 (.tmp 100) rfl g rfl 24 (evC x' (.slice Au ns.length cu)) (0, 0) _ BG.out Tryd.underlying24 rfl (by kernel_rfl) ?_)
                    | (go_at_call 10; refine (chk_any ⟨x'.f0, x'.f1, x'.f2, x'.f3, x'.f4, x'.f5, x'.f6, ns⟩ Au cu _ HC.out HCU.out).mono ?_; rw [HCK.out]; rintro e w5 ⟨rfl, hb⟩; have NB := Aside0.mk hb; clear hb))
                  go_ret
                  rw [HR.out]
                  exact ⟨rfl, ⟨_, _, _, _, blk_below BG.out NB.out⟩, FRX.out.trans (Fr.of_below (NB.out.mono FRX.out.size))⟩
end Go.Proofs.YtiapfhlipoomaaaDoor.Given
end
section
namespace Go.Proofs.YtiapfhlipoomaaaDoor.Given
open Go.RowKit Go.Proofs.YtiapfhlipoomaaaDoorW.PrintWords Go.Proofs.YtiapfhlipoomaaaDoorW.PrintLast Go.Proofs.YtiapfhlipoomaaaDoorW.PrintMore Go.Proofs.YtiapfhlipoomaaaDoor.Print
set_option linter.unusedVariables false
set_option linter.unusedSimpArgs false
def kindFrom (t : ByteArray) : Nat → Nat → Option Nat
  | 0, _ => none
  | m + 1, k => if (wordB k).toList = t.toList then some k else kindFrom t m (k + 1)
def kindOf (t : ByteArray) : Option Nat := kindFrom t 11 1
def oneOf (s : ByteArray) : Option S24 := (kindOf ((wordsL s).headD ⟨#[]⟩)).bind fun k => fillOf k (wordsL s).tail
def OneSays (w : World) (r : Option S24) (e : Ending) (w' : World) : Prop := match r with
  | some x => ∃ A c, e = .returned (.tuple #[.agg (evC x (.slice A x.f7.length c)), .bool true]) ∧ Kd.R (Kd.int .i64) 3 w' w.heap.size (fun k => w.heap.size ≤ k) (.slice A x.f7.length c) x.f7 ∧ Below w.heap.size w w'
  | none => (∃ x A n c, e = .returned (.tuple #[.agg (evC x (.slice A n c)), .bool false])) ∧ Below w.heap.size w w'
theorem kind_step (t : ByteArray) (k : Nat) (hk : 1 ≤ k) (h11 : k ≤ 11) (h : kindOf t = kindFrom t (12 - k) k) : kindOf t = if (wordB k).toList = t.toList then some k else kindFrom t (12 - (k + 1)) (k + 1) := by
  rw [h, show 12 - k = (12 - (k + 1)) + 1 by omega, kindFrom]
theorem R_setRow {α : Type} {d : Kd α} {e base g t : Nat} {ok : Nat → Prop} {w : World} {v : Value} {xs : List α} {cs cs' : Array Value} (h : d.R e w base ok v xs) (hb : w.heap[g]? = some (.cells cs t (0, 0))) (ht : ∀ q, q ∈ e :: d.E → q ≠ t) : d.R e (w.setRow g cs') base (fun k => ok k ∧ k ≠ g) v xs :=
  Kd.R_step (Kd.R_types h hb ht) (fun k hk _ => setRow_other _ _ _ _ hk.2)
set_option maxRecDepth 100000 in
set_option maxHeartbeats 16000000 in
theorem one_any (s : ByteArray) (w : World) (hL : LW w) (hs : s.size < 4294967281) : Calls Tryd.prog 37 #[.string s] w (OneSays w (oneOf s)) := by
  have hu24 := Tryd.underlying24
  have hu48 := Tryd.underlying48
  have HL := Aside0.mk hL
  obtain ⟨n, hn⟩ : ∃ n : Nat, Lib.countB s space = n := ⟨_, rfl⟩
  have HN := Aside0.mk hn
  have hwl := words_length s n hn
  have hcl := count_le s
  rw [hn] at hcl
  obtain ⟨hd, tl, hws⟩ : ∃ hd tl, wordsL s = hd :: tl := by cases h : wordsL s with | nil => rw [h] at hwl; cases hwl | cons a b => exact ⟨a, b, rfl⟩
  have hsz : ∀ t ∈ tl, t.size ≤ 281474976710656 := fun t ht => Nat.le_trans (word_size s t (by rw [hws]; exact List.mem_cons_of_mem _ ht)) (by omega)
  rw [hws] at hwl
  have htl : tl.length = n := by simpa using hwl
  subst htl
  have HSZ := Aside0.mk hsz
  have HWS := Aside0.mk hws
  have HCL0 := Aside0.mk (show tl.length ≤ 4294967296 by omega)
  have HONE : Aside0 (oneOf s = (kindOf hd).bind fun k => fillOf k tl) := ⟨by unfold oneOf; rw [hws]; rfl⟩
  clear hL hn hwl hcl hws hsz
  go_enter Tryd.func37, Tryd.ntmps37
  go_wp2_with (go_at_call 48; refine (split_any s tl.length HN.out _ hs (HL.out.below (bel1 w _))).mono ?_; rintro e w1 ⟨rfl, hbk, hb⟩; have BR := Aside0.mk (blk_below (heap_alloc_new w (.cells (evC ⟨0, 0, 0, 0, 0, 0, 0, []⟩ (.slice none 0 0)) 24)) hb); have BS := Aside0.mk hbk; have HB := Aside0.mk ((bel1 w (.cells (evC ⟨0, 0, 0, 0, 0, 0, 0, []⟩ (.slice none 0 0)) 24)).trans (hb.mono (by rw [size_alloc]; omega))); clear hbk hb)
  rw [HWS.out] at BS
  rw [size_alloc] at BS
  have hsz1 := Aside0.mk (blk_lt BS.out)
  go_loopw [5] (fun v5 wr => ∃ k : Nat, v5 = .int .i64 k ∧ 1 ≤ k ∧ k ≤ 12 ∧ Aside0 (kindOf hd = kindFrom hd (12 - k) k) ∧ Aside0 (Below w1.heap.size w1 wr)) (fun v5 _ => 12 - (intOf v5).toNat)
  case atStart => exact ⟨1, rfl, by omega, by omega, ⟨rfl⟩, ⟨Below.refl _ _⟩⟩
  case round =>
    obtain ⟨k, rfl, hk1, hk2, HK, HB1⟩ := hrel
    obtain ⟨wo, rfl⟩ : ∃ wo : World, wo = wr := ⟨_, rfl⟩
    by_cases hlt : k ≤ 11
    · have HKS := Aside0.mk (kind_step hd k hk1 hlt HK.out)
      have K1 := Aside0.mk hk1
      have K2 := Aside0.mk hlt
      have SB := Aside0.mk (blk_below BS.out HB1.out)
      have RB := Aside0.mk (blk_below BR.out HB1.out)
      have GR := Aside0.mk (blk_lt RB.out)
      have GS := Aside0.mk (blk_lt SB.out)
      have hwn : ((k : Int) ≤ 11) := by omega
      rcases cls_of k with hcl | hcl | hcl
      · have HCL := Aside0.mk hcl
        clear hcl
        by_cases he : (wordB k).toList = hd.toList
        · have he1 : ((wordB k).toList == hd.toList) = true := beq_iff_eq.2 he
          have HOF : Aside0 (oneOf s = fillOf k tl) := ⟨by rw [HONE.out, HKS.out, if_pos he]; rfl⟩
          clear he
          have hsl0 := words_tail (w := wo) (g := wo.heap.size) (A := some ⟨w.heap.size + 1, 0, none⟩) (t := hd) (r := tl) ⟨fun ad h => by injection h with h; rw [← h]; exact Nat.ne_of_lt GS.out, fun j t hj => ⟨_, rfl, by rw [show (⟨w.heap.size + 1, 0, none⟩ : Addr).add j = ⟨w.heap.size + 1, j, none⟩ by simp [Addr.add]; exact Eq.symm, blk_cell SB.out j, List.getElem?_toArray, List.getElem?_map, hj]; rfl⟩⟩ (tl.length + 1) (Nat.le_refl _)
          obtain ⟨A1, hsl, hw1⟩ := hsl0
          have WS := Aside0.mk hw1
          clear hw1
          go_upto_region 7 with (go_at_call 23; refine (form_c0 k K1.out K2.out HCL.out wo.heap.size (⟨k, 0, 0, 0, 0, 0, 0, []⟩ : S24) (.slice none 0 0) _ rfl (heap_alloc_new _ _)).mono ?_; rintro e w2 ⟨_, rfl, ⟨AF, rfl, hF⟩, hb⟩; have BE := Aside0.mk (blk_below (heap_alloc_new wo (.cells (evC (⟨k, 0, 0, 0, 0, 0, 0, []⟩ : S24) (.slice none 0 0)) 24)) hb); have FF := Aside0.mk hF; have HE := Aside0.mk ((bel1 wo (.cells (evC (⟨k, 0, 0, 0, 0, 0, 0, []⟩ : S24) (.slice none 0 0)) 24)).trans (hb.mono (by rw [size_alloc]; omega))); clear hF hb)
          have BF := Aside0.mk (heap_alloc_new w2 (.cells #[.string (wordB k), .slice AF (foK k).length (foK k).length, .pointer none, .slice none 0 0, .pointer none, .bool (liK k)] 48))
          have BE2 := Aside0.mk (blk_below BE.out (bel1 w2 (.cells #[.string (wordB k), .slice AF (foK k).length (foK k).length, .pointer none, .slice none 0 0, .pointer none, .bool (liK k)] 48)))
          have FF2 := Aside0.mk (fun j o hj => by obtain ⟨ad, e1, e2, e3⟩ := FF.out j o hj; exact ⟨ad, e1, e2, pw_cell_below (bel1 w2 (.cells #[.string (wordB k), .slice AF (foK k).length (foK k).length, .pointer none, .slice none 0 0, .pointer none, .bool (liK k)] 48)) e3⟩ : ∀ (j o : Nat), (foK k)[j]? = some o → ∃ ad, AF = some ad ∧ ad.block ≠ wo.heap.size ∧ (w2.alloc (.cells #[.string (wordB k), .slice AF (foK k).length (foK k).length, .pointer none, .slice none 0 0, .pointer none, .bool (liK k)] 48)).cell? (ad.add j) = some (.pointer (some ⟨wo.heap.size, o, none⟩)))
          have HE2 := Aside0.mk (HE.out.trans ((bel1 w2 (.cells #[.string (wordB k), .slice AF (foK k).length (foK k).length, .pointer none, .slice none 0 0, .pointer none, .bool (liK k)] 48)).mono HE.out.size))
          clear BE FF HE
          generalize w2.heap.size = g7 at BF ⊢
          generalize w2.alloc (.cells #[.string (wordB k), .slice AF (foK k).length (foK k).length, .pointer none, .slice none 0 0, .pointer none, .bool (liK k)] 48) = wz at *
          have BE := BE2
          have FF := FF2
          have HE := HE2
          clear BE2 FF2 HE2
          have WZ := Aside0.mk (WS.out.below HE.out)
          have y0 : wz.cell? ⟨g7, 0, none⟩ = some (.string (wordB k)) := (blk_cell BF.out 0).trans rfl
          have s0 : wz.cell? ⟨w.heap.size + 1, 0, none⟩ = some (.string hd) := (blk_cell (blk_below SB.out HE.out) 0).trans rfl
          go_quiet (fail)
          all_goals go_wp2_with (fail)
          obtain ⟨wy, hwy⟩ : ∃ wy, wy = wz.drewN nq := ⟨_, rfl⟩
          rw [← hwy]
          have hY : Below wz.heap.size wz wy := by rw [hwy]; exact pw_below_drewN (Below.refl _ _) _
          have BE3 := Aside0.mk (blk_below BE.out hY)
          have BF3 := Aside0.mk (blk_below BF.out hY)
          have WZ3 := Aside0.mk (WZ.out.below hY)
          have HE3 := Aside0.mk (HE.out.trans (hY.mono HE.out.size))
          have FF3 := Aside0.mk (fun j o hj => by obtain ⟨ad, e1, e2, e3⟩ := FF.out j o hj; exact ⟨ad, e1, e2, pw_cell_below hY e3⟩ : ∀ (j o : Nat), (foK k)[j]? = some o → ∃ ad, AF = some ad ∧ ad.block ≠ wo.heap.size ∧ wy.cell? (ad.add j) = some (.pointer (some ⟨wo.heap.size, o, none⟩)))
          clear y0 s0 BE BF WZ HE FF hwy hY
          have BE := BE3
          have BF := BF3
          have WZ := WZ3
          have HE := HE3
          have FF := FF3
          clear BE3 BF3 WZ3 HE3 FF3
          have HBZ0 : Aside0 (Below w.heap.size w wy) := ⟨HB.out.trans ((below_then HB1.out HB1.out.size HE.out).mono HB.out.size)⟩
          have HBZ : Aside0 (∀ q, Below w.heap.size w (wy.drewN q)) := ⟨fun q => pw_below_drewN HBZ0.out q⟩
          have GB : Aside0 (w.heap.size ≤ wo.heap.size) := ⟨Nat.le_trans HB.out.size HB1.out.size⟩
          have y0 : wy.cell? ⟨g7, 0, none⟩ = some (.string (wordB k)) := (blk_cell BF.out 0).trans rfl
          have y1 : wy.cell? ⟨g7, 1, none⟩ = some (.slice AF (foK k).length (foK k).length) := (blk_cell BF.out 1).trans rfl
          have y2 : wy.cell? ⟨g7, 2, none⟩ = some (.pointer none) := (blk_cell BF.out 2).trans rfl
          have y3 : wy.cell? ⟨g7, 3, none⟩ = some (.slice none 0 0) := (blk_cell BF.out 3).trans rfl
          have y4 : wy.cell? ⟨g7, 4, none⟩ = some (.pointer none) := (blk_cell BF.out 4).trans rfl
          have y5 : wy.cell? ⟨g7, 5, none⟩ = some (.bool (liK k)) := (blk_cell BF.out 5).trans rfl
          cases hfo : fillOf k tl with
          | some x =>
            have HFO := Aside0.mk hfo
            have HOS : Aside0 (oneOf s = some x) := ⟨by rw [HOF.out, HFO.out]⟩
            clear hfo
            go_cut [9] (fun v9 wc => v9 = .bool true ∧ Aside0 (∃ u, wc.heap[wo.heap.size]? = some (.cells (evC x u) 24 (0, 0)) ∧ Kd.R (Kd.int .i64) 3 wc wy.heap.size (fun k => wy.heap.size ≤ k) u x.f7) ∧ Aside0 (Fr wy.heap.size wo.heap.size wy wc))
            case first =>
              go_still_tail 3, (by kernel_rfl)
              change wpList _ _ _ _ _ (World.drew wy)
              have HD := Aside0.mk (show Below wy.heap.size wy wy.drew from below_drew (Below.refl _ _))
              have BE4 : Aside0 (wy.drew.heap[wo.heap.size]? = some (.cells (evC ⟨k, 0, 0, 0, 0, 0, 0, []⟩ (.slice none 0 0)) 24 (0, 0))) := ⟨BE.out⟩
              have FF4 : Aside0 (∀ (j o : Nat), (foK k)[j]? = some o → ∃ ad, AF = some ad ∧ ad.block ≠ wo.heap.size ∧ wy.drew.cell? (ad.add j) = some (.pointer (some ⟨wo.heap.size, o, none⟩))) := ⟨FF.out⟩
              have WZ4 : Aside0 (WordsIn wy.drew wo.heap.size A1 tl) := ⟨WZ.out⟩
              have HBZ4 : Aside0 (Below w.heap.size w wy.drew) := ⟨below_drew HBZ0.out⟩
              generalize wy.drew = wd at HD BE4 FF4 WZ4 HBZ4 ⊢
              go_wp2_with (go_at_call 49; refine (fill_c0 k K1.out K2.out HCL.out wo.heap.size AF A1 tl.length tl _ w HL.out HBZ4.out GB.out BE4.out FF4.out WZ4.out (Nat.le_refl _) HCL0.out HSZ.out).mono ?_; rw [HFO.out]; rintro e w5 ⟨rfl, ⟨u5, h5, hr5⟩, hf5⟩; have BK5 := Aside0.mk h5; have HR5 := Aside0.mk hr5; have FR5 := Aside0.mk ((Fr.of_below HD.out).trans (hf5.mono HD.out.size)); clear h5 hr5 hf5)
              all_goals go_wp2_with (fail)
              all_goals go_meet
              all_goals exact ⟨rfl, ⟨⟨_, BK5.out, Kd.R_mono (Kd.R_lower HR5.out HD.out.size) (fun k hk => Nat.le_trans HD.out.size hk)⟩⟩, FR5⟩
            case rest =>
              obtain ⟨rfl, ⟨u, hbk, hR⟩, FR⟩ := hcut
              obtain ⟨Au, cu, rfl⟩ := Kd.R_slice hR
              have HR := Aside0.mk hR
              clear hR
              have BK := Aside0.mk hbk
              have RB2 := Aside0.mk (FR.out.blk (blk_below RB.out HE.out) (Nat.le_refl _) (Nat.ne_of_lt GR.out))
              have HBC : Aside0 (Below w.heap.size w wc) := ⟨HBZ0.out.trans (FR.out.below HBZ0.out.size GB.out)⟩
              clear hbk
              go_wp2_with (first
                | (refine wpList_load_row rfl 24 (.tmp 6) rfl wo.heap.size rfl 24 (evC x (.slice Au x.f7.length cu)) (0, 0) _ BK.out Tryd.underlying24 rfl (by kernel_rfl) ?_)
                | (refine wpList_store_row rfl 24 (.tmp 2) (.tmp 32) rfl w.heap.size (evC x (.slice Au x.f7.length cu)) rfl rfl 24 _ RB2.out (by kernel_rfl) rfl (by kernel_rfl) ?_; have n9_ : Aside0 ((wc.setRow w.heap.size (evC x (.slice Au x.f7.length cu))).heap[w.heap.size]? = some (.cells (evC x (.slice Au x.f7.length cu)) 24 (0, 0))) := ⟨setRow_heap _ _ _ _ _ _ RB2.out⟩; have n8_ := Aside0.mk (below_setRow HBC.out (Nat.le_refl _) (evC x (.slice Au x.f7.length cu))); have n7_ := Aside0.mk (R_setRow HR.out RB2.out (by decide) (cs' := evC x (.slice Au x.f7.length cu))); generalize wc.setRow w.heap.size (evC x (.slice Au x.f7.length cu)) = wy at n9_ n8_ n7_ ⊢))
              refine bodyPost_ret (results_ct rfl _ _ w.heap.size 24 (evC x (.slice Au x.f7.length cu)) (0, 0) _ rfl n9_.out Tryd.underlying24 rfl (by kernel_rfl)) rfl ?_
              rw [HOS.out]
              exact ⟨Au, cu, rfl, Kd.R_mono (Kd.R_lower n7_.out HBZ0.out.size) (fun k hk => Nat.le_trans HBZ0.out.size hk.1), n8_.out⟩
          | none =>
            have HFO := Aside0.mk hfo
            have HOS : Aside0 (oneOf s = none) := ⟨by rw [HOF.out, HFO.out]⟩
            clear hfo
            go_cut [9] (fun v9 wc => v9 = .bool false ∧ Aside0 (∃ x A n c, wc.heap[wo.heap.size]? = some (.cells (evC x (.slice A n c)) 24 (0, 0))) ∧ Aside0 (Fr wy.heap.size wo.heap.size wy wc))
            case first =>
              go_still_tail 3, (by kernel_rfl)
              change wpList _ _ _ _ _ (World.drew wy)
              have HD := Aside0.mk (show Below wy.heap.size wy wy.drew from below_drew (Below.refl _ _))
              have BE4 : Aside0 (wy.drew.heap[wo.heap.size]? = some (.cells (evC ⟨k, 0, 0, 0, 0, 0, 0, []⟩ (.slice none 0 0)) 24 (0, 0))) := ⟨BE.out⟩
              have FF4 : Aside0 (∀ (j o : Nat), (foK k)[j]? = some o → ∃ ad, AF = some ad ∧ ad.block ≠ wo.heap.size ∧ wy.drew.cell? (ad.add j) = some (.pointer (some ⟨wo.heap.size, o, none⟩))) := ⟨FF.out⟩
              have WZ4 : Aside0 (WordsIn wy.drew wo.heap.size A1 tl) := ⟨WZ.out⟩
              have HBZ4 : Aside0 (Below w.heap.size w wy.drew) := ⟨below_drew HBZ0.out⟩
              generalize wy.drew = wd at HD BE4 FF4 WZ4 HBZ4 ⊢
              go_wp2_with (go_at_call 49; refine (fill_c0 k K1.out K2.out HCL.out wo.heap.size AF A1 tl.length tl _ w HL.out HBZ4.out GB.out BE4.out FF4.out WZ4.out (Nat.le_refl _) HCL0.out HSZ.out).mono ?_; rw [HFO.out]; rintro e w5 ⟨rfl, ⟨x5, A5, n5, c5, h5⟩, hf5⟩; have BK5 := Aside0.mk h5; have FR5 := Aside0.mk ((Fr.of_below HD.out).trans (hf5.mono HD.out.size)); clear h5 hf5)
              all_goals go_wp2_with (fail)
              all_goals go_meet
              all_goals exact ⟨rfl, ⟨⟨_, _, _, _, BK5.out⟩⟩, FR5⟩
            case rest =>
              obtain ⟨rfl, ⟨x, Au, nu, cu, hbk⟩, FR⟩ := hcut
              have BK := Aside0.mk hbk
              have RB2 := Aside0.mk (FR.out.blk (blk_below RB.out HE.out) (Nat.le_refl _) (Nat.ne_of_lt GR.out))
              have HBC : Aside0 (Below w.heap.size w wc) := ⟨HBZ0.out.trans (FR.out.below HBZ0.out.size GB.out)⟩
              clear hbk
              go_wp2_with (first
                | (refine wpList_load_row rfl 24 (.tmp 6) rfl wo.heap.size rfl 24 (evC x (.slice Au nu cu)) (0, 0) _ BK.out Tryd.underlying24 rfl (by kernel_rfl) ?_)
                | (refine wpList_store_row rfl 24 (.tmp 2) (.tmp 32) rfl w.heap.size (evC x (.slice Au nu cu)) rfl rfl 24 _ RB2.out (by kernel_rfl) rfl (by kernel_rfl) ?_; have n9_ : Aside0 ((wc.setRow w.heap.size (evC x (.slice Au nu cu))).heap[w.heap.size]? = some (.cells (evC x (.slice Au nu cu)) 24 (0, 0))) := ⟨setRow_heap _ _ _ _ _ _ RB2.out⟩; have n8_ := Aside0.mk (below_setRow HBC.out (Nat.le_refl _) (evC x (.slice Au nu cu))); generalize wc.setRow w.heap.size (evC x (.slice Au nu cu)) = wy at n9_ n8_ ⊢))
              refine bodyPost_ret (results_ct rfl _ _ w.heap.size 24 (evC x (.slice Au nu cu)) (0, 0) _ rfl n9_.out Tryd.underlying24 rfl (by kernel_rfl)) rfl ?_
              rw [HOS.out]
              exact ⟨⟨_, _, _, _, rfl⟩, n8_.out⟩
        · have he1 : ((wordB k).toList == hd.toList) = false := beq_eq_false_iff_ne.2 he
          have HKN : Aside0 (kindOf hd = kindFrom hd (12 - (k + 1)) (k + 1)) := ⟨by rw [HKS.out, if_neg he]⟩
          clear he
          go_upto_region 7 with (go_at_call 23; refine (form_c0 k K1.out K2.out HCL.out wo.heap.size (⟨k, 0, 0, 0, 0, 0, 0, []⟩ : S24) (.slice none 0 0) _ rfl (heap_alloc_new _ _)).mono ?_; rintro e w2 ⟨_, rfl, ⟨AF, rfl, hF⟩, hb⟩; have HE := Aside0.mk ((bel1 wo (.cells (evC (⟨k, 0, 0, 0, 0, 0, 0, []⟩ : S24) (.slice none 0 0)) 24)).trans (hb.mono (by rw [size_alloc]; omega))); clear hF hb)
          have BF := Aside0.mk (heap_alloc_new w2 (.cells #[.string (wordB k), .slice AF (foK k).length (foK k).length, .pointer none, .slice none 0 0, .pointer none, .bool (liK k)] 48))
          have HE2 := Aside0.mk (HE.out.trans ((bel1 w2 (.cells #[.string (wordB k), .slice AF (foK k).length (foK k).length, .pointer none, .slice none 0 0, .pointer none, .bool (liK k)] 48)).mono HE.out.size))
          generalize w2.heap.size = g7 at BF ⊢
          generalize w2.alloc (.cells #[.string (wordB k), .slice AF (foK k).length (foK k).length, .pointer none, .slice none 0 0, .pointer none, .bool (liK k)] 48) = wz at *
          have y0 : wz.cell? ⟨g7, 0, none⟩ = some (.string (wordB k)) := (blk_cell BF.out 0).trans rfl
          have s0 : wz.cell? ⟨w.heap.size + 1, 0, none⟩ = some (.string hd) := (blk_cell (blk_below SB.out HE2.out) 0).trans rfl
          go_quiet (fail)
          all_goals go_wp2_with (fail)
          all_goals go_roundw
          case rel => exact ⟨k + 1, by go_num, by omega, by omega, HKN, ⟨pw_below_drewN (below_then HB1.out HB1.out.size HE2.out) _⟩⟩
          case measure => simp [intOf]; omega
      · have HCL := Aside0.mk hcl
        clear hcl
        by_cases he : (wordB k).toList = hd.toList
        · have he1 : ((wordB k).toList == hd.toList) = true := beq_iff_eq.2 he
          have HOF : Aside0 (oneOf s = fillOf k tl) := ⟨by rw [HONE.out, HKS.out, if_pos he]; rfl⟩
          clear he
          have hsl0 := words_tail (w := wo) (g := wo.heap.size) (A := some ⟨w.heap.size + 1, 0, none⟩) (t := hd) (r := tl) ⟨fun ad h => by injection h with h; rw [← h]; exact Nat.ne_of_lt GS.out, fun j t hj => ⟨_, rfl, by rw [show (⟨w.heap.size + 1, 0, none⟩ : Addr).add j = ⟨w.heap.size + 1, j, none⟩ by simp [Addr.add]; exact Eq.symm, blk_cell SB.out j, List.getElem?_toArray, List.getElem?_map, hj]; rfl⟩⟩ (tl.length + 1) (Nat.le_refl _)
          obtain ⟨A1, hsl, hw1⟩ := hsl0
          have WS := Aside0.mk hw1
          clear hw1
          go_upto_region 7 with (go_at_call 23; refine (form_c1 k K1.out K2.out HCL.out wo.heap.size (⟨k, 0, 0, 0, 0, 0, 0, []⟩ : S24) (.slice none 0 0) _ rfl (heap_alloc_new _ _)).mono ?_; rintro e w2 ⟨_, rfl, ⟨AF, rfl, hF⟩, hb⟩; have BE := Aside0.mk (blk_below (heap_alloc_new wo (.cells (evC (⟨k, 0, 0, 0, 0, 0, 0, []⟩ : S24) (.slice none 0 0)) 24)) hb); have FF := Aside0.mk hF; have HE := Aside0.mk ((bel1 wo (.cells (evC (⟨k, 0, 0, 0, 0, 0, 0, []⟩ : S24) (.slice none 0 0)) 24)).trans (hb.mono (by rw [size_alloc]; omega))); clear hF hb)
          have BF := Aside0.mk (heap_alloc_new w2 (.cells #[.string (wordB k), .slice AF (foK k).length (foK k).length, .pointer (some ⟨wo.heap.size, 6, none⟩), .slice none 0 0, .pointer none, .bool false] 48))
          have BE2 := Aside0.mk (blk_below BE.out (bel1 w2 (.cells #[.string (wordB k), .slice AF (foK k).length (foK k).length, .pointer (some ⟨wo.heap.size, 6, none⟩), .slice none 0 0, .pointer none, .bool false] 48)))
          have FF2 := Aside0.mk (fun j o hj => by obtain ⟨ad, e1, e2, e3⟩ := FF.out j o hj; exact ⟨ad, e1, e2, pw_cell_below (bel1 w2 (.cells #[.string (wordB k), .slice AF (foK k).length (foK k).length, .pointer (some ⟨wo.heap.size, 6, none⟩), .slice none 0 0, .pointer none, .bool false] 48)) e3⟩ : ∀ (j o : Nat), (foK k)[j]? = some o → ∃ ad, AF = some ad ∧ ad.block ≠ wo.heap.size ∧ (w2.alloc (.cells #[.string (wordB k), .slice AF (foK k).length (foK k).length, .pointer (some ⟨wo.heap.size, 6, none⟩), .slice none 0 0, .pointer none, .bool false] 48)).cell? (ad.add j) = some (.pointer (some ⟨wo.heap.size, o, none⟩)))
          have HE2 := Aside0.mk (HE.out.trans ((bel1 w2 (.cells #[.string (wordB k), .slice AF (foK k).length (foK k).length, .pointer (some ⟨wo.heap.size, 6, none⟩), .slice none 0 0, .pointer none, .bool false] 48)).mono HE.out.size))
          clear BE FF HE
          generalize w2.heap.size = g7 at BF ⊢
          generalize w2.alloc (.cells #[.string (wordB k), .slice AF (foK k).length (foK k).length, .pointer (some ⟨wo.heap.size, 6, none⟩), .slice none 0 0, .pointer none, .bool false] 48) = wz at *
          have BE := BE2
          have FF := FF2
          have HE := HE2
          clear BE2 FF2 HE2
          have WZ := Aside0.mk (WS.out.below HE.out)
          have y0 : wz.cell? ⟨g7, 0, none⟩ = some (.string (wordB k)) := (blk_cell BF.out 0).trans rfl
          have s0 : wz.cell? ⟨w.heap.size + 1, 0, none⟩ = some (.string hd) := (blk_cell (blk_below SB.out HE.out) 0).trans rfl
          go_quiet (fail)
          all_goals go_wp2_with (fail)
          obtain ⟨wy, hwy⟩ : ∃ wy, wy = wz.drewN nq := ⟨_, rfl⟩
          rw [← hwy]
          have hY : Below wz.heap.size wz wy := by rw [hwy]; exact pw_below_drewN (Below.refl _ _) _
          have BE3 := Aside0.mk (blk_below BE.out hY)
          have BF3 := Aside0.mk (blk_below BF.out hY)
          have WZ3 := Aside0.mk (WZ.out.below hY)
          have HE3 := Aside0.mk (HE.out.trans (hY.mono HE.out.size))
          have FF3 := Aside0.mk (fun j o hj => by obtain ⟨ad, e1, e2, e3⟩ := FF.out j o hj; exact ⟨ad, e1, e2, pw_cell_below hY e3⟩ : ∀ (j o : Nat), (foK k)[j]? = some o → ∃ ad, AF = some ad ∧ ad.block ≠ wo.heap.size ∧ wy.cell? (ad.add j) = some (.pointer (some ⟨wo.heap.size, o, none⟩)))
          clear y0 s0 BE BF WZ HE FF hwy hY
          have BE := BE3
          have BF := BF3
          have WZ := WZ3
          have HE := HE3
          have FF := FF3
          clear BE3 BF3 WZ3 HE3 FF3
          have HBZ0 : Aside0 (Below w.heap.size w wy) := ⟨HB.out.trans ((below_then HB1.out HB1.out.size HE.out).mono HB.out.size)⟩
          have HBZ : Aside0 (∀ q, Below w.heap.size w (wy.drewN q)) := ⟨fun q => pw_below_drewN HBZ0.out q⟩
          have GB : Aside0 (w.heap.size ≤ wo.heap.size) := ⟨Nat.le_trans HB.out.size HB1.out.size⟩
          have y0 : wy.cell? ⟨g7, 0, none⟩ = some (.string (wordB k)) := (blk_cell BF.out 0).trans rfl
          have y1 : wy.cell? ⟨g7, 1, none⟩ = some (.slice AF (foK k).length (foK k).length) := (blk_cell BF.out 1).trans rfl
          have y2 : wy.cell? ⟨g7, 2, none⟩ = some (.pointer (some ⟨wo.heap.size, 6, none⟩)) := (blk_cell BF.out 2).trans rfl
          have y3 : wy.cell? ⟨g7, 3, none⟩ = some (.slice none 0 0) := (blk_cell BF.out 3).trans rfl
          have y4 : wy.cell? ⟨g7, 4, none⟩ = some (.pointer none) := (blk_cell BF.out 4).trans rfl
          have y5 : wy.cell? ⟨g7, 5, none⟩ = some (.bool false) := (blk_cell BF.out 5).trans rfl
          cases hfo : fillOf k tl with
          | some x =>
            have HFO := Aside0.mk hfo
            have HOS : Aside0 (oneOf s = some x) := ⟨by rw [HOF.out, HFO.out]⟩
            clear hfo
            go_cut [9] (fun v9 wc => v9 = .bool true ∧ Aside0 (∃ u, wc.heap[wo.heap.size]? = some (.cells (evC x u) 24 (0, 0)) ∧ Kd.R (Kd.int .i64) 3 wc wy.heap.size (fun k => wy.heap.size ≤ k) u x.f7) ∧ Aside0 (Fr wy.heap.size wo.heap.size wy wc))
            case first =>
              go_still_tail 3, (by kernel_rfl)
              change wpList _ _ _ _ _ (World.drew wy)
              have HD := Aside0.mk (show Below wy.heap.size wy wy.drew from below_drew (Below.refl _ _))
              have BE4 : Aside0 (wy.drew.heap[wo.heap.size]? = some (.cells (evC ⟨k, 0, 0, 0, 0, 0, 0, []⟩ (.slice none 0 0)) 24 (0, 0))) := ⟨BE.out⟩
              have FF4 : Aside0 (∀ (j o : Nat), (foK k)[j]? = some o → ∃ ad, AF = some ad ∧ ad.block ≠ wo.heap.size ∧ wy.drew.cell? (ad.add j) = some (.pointer (some ⟨wo.heap.size, o, none⟩))) := ⟨FF.out⟩
              have WZ4 : Aside0 (WordsIn wy.drew wo.heap.size A1 tl) := ⟨WZ.out⟩
              have HBZ4 : Aside0 (Below w.heap.size w wy.drew) := ⟨below_drew HBZ0.out⟩
              generalize wy.drew = wd at HD BE4 FF4 WZ4 HBZ4 ⊢
              go_wp2_with (go_at_call 49; refine (fill_c1 k K1.out K2.out HCL.out wo.heap.size AF A1 tl.length tl _ w HL.out HBZ4.out GB.out BE4.out FF4.out WZ4.out (Nat.le_refl _) HCL0.out HSZ.out).mono ?_; rw [HFO.out]; rintro e w5 ⟨rfl, ⟨u5, h5, hr5⟩, hf5⟩; have BK5 := Aside0.mk h5; have HR5 := Aside0.mk hr5; have FR5 := Aside0.mk ((Fr.of_below HD.out).trans (hf5.mono HD.out.size)); clear h5 hr5 hf5)
              all_goals go_wp2_with (fail)
              all_goals go_meet
              all_goals exact ⟨rfl, ⟨⟨_, BK5.out, Kd.R_mono (Kd.R_lower HR5.out HD.out.size) (fun k hk => Nat.le_trans HD.out.size hk)⟩⟩, FR5⟩
            case rest =>
              obtain ⟨rfl, ⟨u, hbk, hR⟩, FR⟩ := hcut
              obtain ⟨Au, cu, rfl⟩ := Kd.R_slice hR
              have HR := Aside0.mk hR
              clear hR
              have BK := Aside0.mk hbk
              have RB2 := Aside0.mk (FR.out.blk (blk_below RB.out HE.out) (Nat.le_refl _) (Nat.ne_of_lt GR.out))
              have HBC : Aside0 (Below w.heap.size w wc) := ⟨HBZ0.out.trans (FR.out.below HBZ0.out.size GB.out)⟩
              clear hbk
              go_wp2_with (first
                | (refine wpList_load_row rfl 24 (.tmp 6) rfl wo.heap.size rfl 24 (evC x (.slice Au x.f7.length cu)) (0, 0) _ BK.out Tryd.underlying24 rfl (by kernel_rfl) ?_)
                | (refine wpList_store_row rfl 24 (.tmp 2) (.tmp 32) rfl w.heap.size (evC x (.slice Au x.f7.length cu)) rfl rfl 24 _ RB2.out (by kernel_rfl) rfl (by kernel_rfl) ?_; have n9_ : Aside0 ((wc.setRow w.heap.size (evC x (.slice Au x.f7.length cu))).heap[w.heap.size]? = some (.cells (evC x (.slice Au x.f7.length cu)) 24 (0, 0))) := ⟨setRow_heap _ _ _ _ _ _ RB2.out⟩; have n8_ := Aside0.mk (below_setRow HBC.out (Nat.le_refl _) (evC x (.slice Au x.f7.length cu))); have n7_ := Aside0.mk (R_setRow HR.out RB2.out (by decide) (cs' := evC x (.slice Au x.f7.length cu))); generalize wc.setRow w.heap.size (evC x (.slice Au x.f7.length cu)) = wy at n9_ n8_ n7_ ⊢))
              refine bodyPost_ret (results_ct rfl _ _ w.heap.size 24 (evC x (.slice Au x.f7.length cu)) (0, 0) _ rfl n9_.out Tryd.underlying24 rfl (by kernel_rfl)) rfl ?_
              rw [HOS.out]
              exact ⟨Au, cu, rfl, Kd.R_mono (Kd.R_lower n7_.out HBZ0.out.size) (fun k hk => Nat.le_trans HBZ0.out.size hk.1), n8_.out⟩
          | none =>
            have HFO := Aside0.mk hfo
            have HOS : Aside0 (oneOf s = none) := ⟨by rw [HOF.out, HFO.out]⟩
            clear hfo
            go_cut [9] (fun v9 wc => v9 = .bool false ∧ Aside0 (∃ x A n c, wc.heap[wo.heap.size]? = some (.cells (evC x (.slice A n c)) 24 (0, 0))) ∧ Aside0 (Fr wy.heap.size wo.heap.size wy wc))
            case first =>
              go_still_tail 3, (by kernel_rfl)
              change wpList _ _ _ _ _ (World.drew wy)
              have HD := Aside0.mk (show Below wy.heap.size wy wy.drew from below_drew (Below.refl _ _))
              have BE4 : Aside0 (wy.drew.heap[wo.heap.size]? = some (.cells (evC ⟨k, 0, 0, 0, 0, 0, 0, []⟩ (.slice none 0 0)) 24 (0, 0))) := ⟨BE.out⟩
              have FF4 : Aside0 (∀ (j o : Nat), (foK k)[j]? = some o → ∃ ad, AF = some ad ∧ ad.block ≠ wo.heap.size ∧ wy.drew.cell? (ad.add j) = some (.pointer (some ⟨wo.heap.size, o, none⟩))) := ⟨FF.out⟩
              have WZ4 : Aside0 (WordsIn wy.drew wo.heap.size A1 tl) := ⟨WZ.out⟩
              have HBZ4 : Aside0 (Below w.heap.size w wy.drew) := ⟨below_drew HBZ0.out⟩
              generalize wy.drew = wd at HD BE4 FF4 WZ4 HBZ4 ⊢
              go_wp2_with (go_at_call 49; refine (fill_c1 k K1.out K2.out HCL.out wo.heap.size AF A1 tl.length tl _ w HL.out HBZ4.out GB.out BE4.out FF4.out WZ4.out (Nat.le_refl _) HCL0.out HSZ.out).mono ?_; rw [HFO.out]; rintro e w5 ⟨rfl, ⟨x5, A5, n5, c5, h5⟩, hf5⟩; have BK5 := Aside0.mk h5; have FR5 := Aside0.mk ((Fr.of_below HD.out).trans (hf5.mono HD.out.size)); clear h5 hf5)
              all_goals go_wp2_with (fail)
              all_goals go_meet
              all_goals exact ⟨rfl, ⟨⟨_, _, _, _, BK5.out⟩⟩, FR5⟩
            case rest =>
              obtain ⟨rfl, ⟨x, Au, nu, cu, hbk⟩, FR⟩ := hcut
              have BK := Aside0.mk hbk
              have RB2 := Aside0.mk (FR.out.blk (blk_below RB.out HE.out) (Nat.le_refl _) (Nat.ne_of_lt GR.out))
              have HBC : Aside0 (Below w.heap.size w wc) := ⟨HBZ0.out.trans (FR.out.below HBZ0.out.size GB.out)⟩
              clear hbk
              go_wp2_with (first
                | (refine wpList_load_row rfl 24 (.tmp 6) rfl wo.heap.size rfl 24 (evC x (.slice Au nu cu)) (0, 0) _ BK.out Tryd.underlying24 rfl (by kernel_rfl) ?_)
                | (refine wpList_store_row rfl 24 (.tmp 2) (.tmp 32) rfl w.heap.size (evC x (.slice Au nu cu)) rfl rfl 24 _ RB2.out (by kernel_rfl) rfl (by kernel_rfl) ?_; have n9_ : Aside0 ((wc.setRow w.heap.size (evC x (.slice Au nu cu))).heap[w.heap.size]? = some (.cells (evC x (.slice Au nu cu)) 24 (0, 0))) := ⟨setRow_heap _ _ _ _ _ _ RB2.out⟩; have n8_ := Aside0.mk (below_setRow HBC.out (Nat.le_refl _) (evC x (.slice Au nu cu))); generalize wc.setRow w.heap.size (evC x (.slice Au nu cu)) = wy at n9_ n8_ ⊢))
              refine bodyPost_ret (results_ct rfl _ _ w.heap.size 24 (evC x (.slice Au nu cu)) (0, 0) _ rfl n9_.out Tryd.underlying24 rfl (by kernel_rfl)) rfl ?_
              rw [HOS.out]
              exact ⟨⟨_, _, _, _, rfl⟩, n8_.out⟩
        · have he1 : ((wordB k).toList == hd.toList) = false := beq_eq_false_iff_ne.2 he
          have HKN : Aside0 (kindOf hd = kindFrom hd (12 - (k + 1)) (k + 1)) := ⟨by rw [HKS.out, if_neg he]⟩
          clear he
          go_upto_region 7 with (go_at_call 23; refine (form_c1 k K1.out K2.out HCL.out wo.heap.size (⟨k, 0, 0, 0, 0, 0, 0, []⟩ : S24) (.slice none 0 0) _ rfl (heap_alloc_new _ _)).mono ?_; rintro e w2 ⟨_, rfl, ⟨AF, rfl, hF⟩, hb⟩; have HE := Aside0.mk ((bel1 wo (.cells (evC (⟨k, 0, 0, 0, 0, 0, 0, []⟩ : S24) (.slice none 0 0)) 24)).trans (hb.mono (by rw [size_alloc]; omega))); clear hF hb)
          have BF := Aside0.mk (heap_alloc_new w2 (.cells #[.string (wordB k), .slice AF (foK k).length (foK k).length, .pointer (some ⟨wo.heap.size, 6, none⟩), .slice none 0 0, .pointer none, .bool false] 48))
          have HE2 := Aside0.mk (HE.out.trans ((bel1 w2 (.cells #[.string (wordB k), .slice AF (foK k).length (foK k).length, .pointer (some ⟨wo.heap.size, 6, none⟩), .slice none 0 0, .pointer none, .bool false] 48)).mono HE.out.size))
          generalize w2.heap.size = g7 at BF ⊢
          generalize w2.alloc (.cells #[.string (wordB k), .slice AF (foK k).length (foK k).length, .pointer (some ⟨wo.heap.size, 6, none⟩), .slice none 0 0, .pointer none, .bool false] 48) = wz at *
          have y0 : wz.cell? ⟨g7, 0, none⟩ = some (.string (wordB k)) := (blk_cell BF.out 0).trans rfl
          have s0 : wz.cell? ⟨w.heap.size + 1, 0, none⟩ = some (.string hd) := (blk_cell (blk_below SB.out HE2.out) 0).trans rfl
          go_quiet (fail)
          all_goals go_wp2_with (fail)
          all_goals go_roundw
          case rel => exact ⟨k + 1, by go_num, by omega, by omega, HKN, ⟨pw_below_drewN (below_then HB1.out HB1.out.size HE2.out) _⟩⟩
          case measure => simp [intOf]; omega
      · have HCL := Aside0.mk hcl
        clear hcl
        by_cases he : (wordB k).toList = hd.toList
        · have he1 : ((wordB k).toList == hd.toList) = true := beq_iff_eq.2 he
          have HOF : Aside0 (oneOf s = fillOf k tl) := ⟨by rw [HONE.out, HKS.out, if_pos he]; rfl⟩
          clear he
          have hsl0 := words_tail (w := wo) (g := wo.heap.size) (A := some ⟨w.heap.size + 1, 0, none⟩) (t := hd) (r := tl) ⟨fun ad h => by injection h with h; rw [← h]; exact Nat.ne_of_lt GS.out, fun j t hj => ⟨_, rfl, by rw [show (⟨w.heap.size + 1, 0, none⟩ : Addr).add j = ⟨w.heap.size + 1, j, none⟩ by simp [Addr.add]; exact Eq.symm, blk_cell SB.out j, List.getElem?_toArray, List.getElem?_map, hj]; rfl⟩⟩ (tl.length + 1) (Nat.le_refl _)
          obtain ⟨A1, hsl, hw1⟩ := hsl0
          have WS := Aside0.mk hw1
          clear hw1
          go_upto_region 7 with (go_at_call 23; refine (form_c2 k K1.out K2.out HCL.out wo.heap.size (⟨k, 0, 0, 0, 0, 0, 0, []⟩ : S24) (.slice none 0 0) _ rfl (heap_alloc_new _ _)).mono ?_; rintro e w2 ⟨_, bW, rfl, ⟨AF, rfl, hF⟩, hW, hb⟩; have BE := Aside0.mk (blk_below (heap_alloc_new wo (.cells (evC (⟨k, 0, 0, 0, 0, 0, 0, []⟩ : S24) (.slice none 0 0)) 24)) hb); have BW := Aside0.mk hW; have NW : Aside0 (bW ≠ wo.heap.size) := ⟨by rintro rfl; have h1 := hW.symm.trans BE.out; injection h1 with h1; injection h1 with _ h2 _; cases h2⟩; clear hW; have FF := Aside0.mk hF; have HE := Aside0.mk ((bel1 wo (.cells (evC (⟨k, 0, 0, 0, 0, 0, 0, []⟩ : S24) (.slice none 0 0)) 24)).trans (hb.mono (by rw [size_alloc]; omega))); clear hF hb)
          have BF := Aside0.mk (heap_alloc_new w2 (.cells #[.string (wordB k), .slice AF (foK k).length (foK k).length, .pointer none, .slice (some ⟨bW, 0, none⟩) (wsK k).length (wsK k).length, .pointer (some ⟨wo.heap.size, 6, none⟩), .bool false] 48))
          have BE2 := Aside0.mk (blk_below BE.out (bel1 w2 (.cells #[.string (wordB k), .slice AF (foK k).length (foK k).length, .pointer none, .slice (some ⟨bW, 0, none⟩) (wsK k).length (wsK k).length, .pointer (some ⟨wo.heap.size, 6, none⟩), .bool false] 48)))
          have FF2 := Aside0.mk (fun j o hj => by obtain ⟨ad, e1, e2, e3⟩ := FF.out j o hj; exact ⟨ad, e1, e2, pw_cell_below (bel1 w2 (.cells #[.string (wordB k), .slice AF (foK k).length (foK k).length, .pointer none, .slice (some ⟨bW, 0, none⟩) (wsK k).length (wsK k).length, .pointer (some ⟨wo.heap.size, 6, none⟩), .bool false] 48)) e3⟩ : ∀ (j o : Nat), (foK k)[j]? = some o → ∃ ad, AF = some ad ∧ ad.block ≠ wo.heap.size ∧ (w2.alloc (.cells #[.string (wordB k), .slice AF (foK k).length (foK k).length, .pointer none, .slice (some ⟨bW, 0, none⟩) (wsK k).length (wsK k).length, .pointer (some ⟨wo.heap.size, 6, none⟩), .bool false] 48)).cell? (ad.add j) = some (.pointer (some ⟨wo.heap.size, o, none⟩)))
          have HE2 := Aside0.mk (HE.out.trans ((bel1 w2 (.cells #[.string (wordB k), .slice AF (foK k).length (foK k).length, .pointer none, .slice (some ⟨bW, 0, none⟩) (wsK k).length (wsK k).length, .pointer (some ⟨wo.heap.size, 6, none⟩), .bool false] 48)).mono HE.out.size))
          have BW2 := Aside0.mk (blk_below BW.out (bel1 w2 (.cells #[.string (wordB k), .slice AF (foK k).length (foK k).length, .pointer none, .slice (some ⟨bW, 0, none⟩) (wsK k).length (wsK k).length, .pointer (some ⟨wo.heap.size, 6, none⟩), .bool false] 48)))
          clear BW
          have BW := BW2
          clear BW2
          clear BE FF HE
          generalize w2.heap.size = g7 at BF ⊢
          generalize w2.alloc (.cells #[.string (wordB k), .slice AF (foK k).length (foK k).length, .pointer none, .slice (some ⟨bW, 0, none⟩) (wsK k).length (wsK k).length, .pointer (some ⟨wo.heap.size, 6, none⟩), .bool false] 48) = wz at *
          have BE := BE2
          have FF := FF2
          have HE := HE2
          clear BE2 FF2 HE2
          have WZ := Aside0.mk (WS.out.below HE.out)
          have y0 : wz.cell? ⟨g7, 0, none⟩ = some (.string (wordB k)) := (blk_cell BF.out 0).trans rfl
          have s0 : wz.cell? ⟨w.heap.size + 1, 0, none⟩ = some (.string hd) := (blk_cell (blk_below SB.out HE.out) 0).trans rfl
          go_quiet (fail)
          all_goals go_wp2_with (fail)
          obtain ⟨wy, hwy⟩ : ∃ wy, wy = wz.drewN nq := ⟨_, rfl⟩
          rw [← hwy]
          have hY : Below wz.heap.size wz wy := by rw [hwy]; exact pw_below_drewN (Below.refl _ _) _
          have BE3 := Aside0.mk (blk_below BE.out hY)
          have BF3 := Aside0.mk (blk_below BF.out hY)
          have WZ3 := Aside0.mk (WZ.out.below hY)
          have HE3 := Aside0.mk (HE.out.trans (hY.mono HE.out.size))
          have FF3 := Aside0.mk (fun j o hj => by obtain ⟨ad, e1, e2, e3⟩ := FF.out j o hj; exact ⟨ad, e1, e2, pw_cell_below hY e3⟩ : ∀ (j o : Nat), (foK k)[j]? = some o → ∃ ad, AF = some ad ∧ ad.block ≠ wo.heap.size ∧ wy.cell? (ad.add j) = some (.pointer (some ⟨wo.heap.size, o, none⟩)))
          have BW3 := Aside0.mk (blk_below BW.out hY)
          clear BW
          have BW := BW3
          clear BW3
          clear y0 s0 BE BF WZ HE FF hwy hY
          have BE := BE3
          have BF := BF3
          have WZ := WZ3
          have HE := HE3
          have FF := FF3
          clear BE3 BF3 WZ3 HE3 FF3
          have HBZ0 : Aside0 (Below w.heap.size w wy) := ⟨HB.out.trans ((below_then HB1.out HB1.out.size HE.out).mono HB.out.size)⟩
          have HBZ : Aside0 (∀ q, Below w.heap.size w (wy.drewN q)) := ⟨fun q => pw_below_drewN HBZ0.out q⟩
          have GB : Aside0 (w.heap.size ≤ wo.heap.size) := ⟨Nat.le_trans HB.out.size HB1.out.size⟩
          have y0 : wy.cell? ⟨g7, 0, none⟩ = some (.string (wordB k)) := (blk_cell BF.out 0).trans rfl
          have y1 : wy.cell? ⟨g7, 1, none⟩ = some (.slice AF (foK k).length (foK k).length) := (blk_cell BF.out 1).trans rfl
          have y2 : wy.cell? ⟨g7, 2, none⟩ = some (.pointer none) := (blk_cell BF.out 2).trans rfl
          have y3 : wy.cell? ⟨g7, 3, none⟩ = some (.slice (some ⟨bW, 0, none⟩) (wsK k).length (wsK k).length) := (blk_cell BF.out 3).trans rfl
          have y4 : wy.cell? ⟨g7, 4, none⟩ = some (.pointer (some ⟨wo.heap.size, 6, none⟩)) := (blk_cell BF.out 4).trans rfl
          have y5 : wy.cell? ⟨g7, 5, none⟩ = some (.bool false) := (blk_cell BF.out 5).trans rfl
          cases hfo : fillOf k tl with
          | some x =>
            have HFO := Aside0.mk hfo
            have HOS : Aside0 (oneOf s = some x) := ⟨by rw [HOF.out, HFO.out]⟩
            clear hfo
            go_cut [9] (fun v9 wc => v9 = .bool true ∧ Aside0 (∃ u, wc.heap[wo.heap.size]? = some (.cells (evC x u) 24 (0, 0)) ∧ Kd.R (Kd.int .i64) 3 wc wy.heap.size (fun k => wy.heap.size ≤ k) u x.f7) ∧ Aside0 (Fr wy.heap.size wo.heap.size wy wc))
            case first =>
              go_still_tail 3, (by kernel_rfl)
              change wpList _ _ _ _ _ (World.drew wy)
              have HD := Aside0.mk (show Below wy.heap.size wy wy.drew from below_drew (Below.refl _ _))
              have BE4 : Aside0 (wy.drew.heap[wo.heap.size]? = some (.cells (evC ⟨k, 0, 0, 0, 0, 0, 0, []⟩ (.slice none 0 0)) 24 (0, 0))) := ⟨BE.out⟩
              have FF4 : Aside0 (∀ (j o : Nat), (foK k)[j]? = some o → ∃ ad, AF = some ad ∧ ad.block ≠ wo.heap.size ∧ wy.drew.cell? (ad.add j) = some (.pointer (some ⟨wo.heap.size, o, none⟩))) := ⟨FF.out⟩
              have WZ4 : Aside0 (WordsIn wy.drew wo.heap.size A1 tl) := ⟨WZ.out⟩
              have HBZ4 : Aside0 (Below w.heap.size w wy.drew) := ⟨below_drew HBZ0.out⟩
              have BW4 : Aside0 (wy.drew.heap[bW]? = some (.cells ((wsK k).map Value.string).toArray 9 (0, 0))) := ⟨BW.out⟩
              generalize wy.drew = wd at HD BE4 FF4 WZ4 HBZ4 BW4 ⊢
              go_wp2_with (go_at_call 49; refine (fill_c2 k K1.out K2.out HCL.out wo.heap.size AF A1 tl.length bW tl _ w HL.out HBZ4.out GB.out BE4.out FF4.out BW4.out NW.out WZ4.out (Nat.le_refl _) HCL0.out HSZ.out).mono ?_; rw [HFO.out]; rintro e w5 ⟨rfl, ⟨u5, h5, hr5⟩, hf5⟩; have BK5 := Aside0.mk h5; have HR5 := Aside0.mk hr5; have FR5 := Aside0.mk ((Fr.of_below HD.out).trans (hf5.mono HD.out.size)); clear h5 hr5 hf5)
              all_goals go_wp2_with (fail)
              all_goals go_meet
              all_goals exact ⟨rfl, ⟨⟨_, BK5.out, Kd.R_mono (Kd.R_lower HR5.out HD.out.size) (fun k hk => Nat.le_trans HD.out.size hk)⟩⟩, FR5⟩
            case rest =>
              obtain ⟨rfl, ⟨u, hbk, hR⟩, FR⟩ := hcut
              obtain ⟨Au, cu, rfl⟩ := Kd.R_slice hR
              have HR := Aside0.mk hR
              clear hR
              have BK := Aside0.mk hbk
              have RB2 := Aside0.mk (FR.out.blk (blk_below RB.out HE.out) (Nat.le_refl _) (Nat.ne_of_lt GR.out))
              have HBC : Aside0 (Below w.heap.size w wc) := ⟨HBZ0.out.trans (FR.out.below HBZ0.out.size GB.out)⟩
              clear hbk
              go_wp2_with (first
                | (refine wpList_load_row rfl 24 (.tmp 6) rfl wo.heap.size rfl 24 (evC x (.slice Au x.f7.length cu)) (0, 0) _ BK.out Tryd.underlying24 rfl (by kernel_rfl) ?_)
                | (refine wpList_store_row rfl 24 (.tmp 2) (.tmp 32) rfl w.heap.size (evC x (.slice Au x.f7.length cu)) rfl rfl 24 _ RB2.out (by kernel_rfl) rfl (by kernel_rfl) ?_; have n9_ : Aside0 ((wc.setRow w.heap.size (evC x (.slice Au x.f7.length cu))).heap[w.heap.size]? = some (.cells (evC x (.slice Au x.f7.length cu)) 24 (0, 0))) := ⟨setRow_heap _ _ _ _ _ _ RB2.out⟩; have n8_ := Aside0.mk (below_setRow HBC.out (Nat.le_refl _) (evC x (.slice Au x.f7.length cu))); have n7_ := Aside0.mk (R_setRow HR.out RB2.out (by decide) (cs' := evC x (.slice Au x.f7.length cu))); generalize wc.setRow w.heap.size (evC x (.slice Au x.f7.length cu)) = wy at n9_ n8_ n7_ ⊢))
              refine bodyPost_ret (results_ct rfl _ _ w.heap.size 24 (evC x (.slice Au x.f7.length cu)) (0, 0) _ rfl n9_.out Tryd.underlying24 rfl (by kernel_rfl)) rfl ?_
              rw [HOS.out]
              exact ⟨Au, cu, rfl, Kd.R_mono (Kd.R_lower n7_.out HBZ0.out.size) (fun k hk => Nat.le_trans HBZ0.out.size hk.1), n8_.out⟩
          | none =>
            have HFO := Aside0.mk hfo
            have HOS : Aside0 (oneOf s = none) := ⟨by rw [HOF.out, HFO.out]⟩
            clear hfo
            go_cut [9] (fun v9 wc => v9 = .bool false ∧ Aside0 (∃ x A n c, wc.heap[wo.heap.size]? = some (.cells (evC x (.slice A n c)) 24 (0, 0))) ∧ Aside0 (Fr wy.heap.size wo.heap.size wy wc))
            case first =>
              go_still_tail 3, (by kernel_rfl)
              change wpList _ _ _ _ _ (World.drew wy)
              have HD := Aside0.mk (show Below wy.heap.size wy wy.drew from below_drew (Below.refl _ _))
              have BE4 : Aside0 (wy.drew.heap[wo.heap.size]? = some (.cells (evC ⟨k, 0, 0, 0, 0, 0, 0, []⟩ (.slice none 0 0)) 24 (0, 0))) := ⟨BE.out⟩
              have FF4 : Aside0 (∀ (j o : Nat), (foK k)[j]? = some o → ∃ ad, AF = some ad ∧ ad.block ≠ wo.heap.size ∧ wy.drew.cell? (ad.add j) = some (.pointer (some ⟨wo.heap.size, o, none⟩))) := ⟨FF.out⟩
              have WZ4 : Aside0 (WordsIn wy.drew wo.heap.size A1 tl) := ⟨WZ.out⟩
              have HBZ4 : Aside0 (Below w.heap.size w wy.drew) := ⟨below_drew HBZ0.out⟩
              have BW4 : Aside0 (wy.drew.heap[bW]? = some (.cells ((wsK k).map Value.string).toArray 9 (0, 0))) := ⟨BW.out⟩
              generalize wy.drew = wd at HD BE4 FF4 WZ4 HBZ4 BW4 ⊢
              go_wp2_with (go_at_call 49; refine (fill_c2 k K1.out K2.out HCL.out wo.heap.size AF A1 tl.length bW tl _ w HL.out HBZ4.out GB.out BE4.out FF4.out BW4.out NW.out WZ4.out (Nat.le_refl _) HCL0.out HSZ.out).mono ?_; rw [HFO.out]; rintro e w5 ⟨rfl, ⟨x5, A5, n5, c5, h5⟩, hf5⟩; have BK5 := Aside0.mk h5; have FR5 := Aside0.mk ((Fr.of_below HD.out).trans (hf5.mono HD.out.size)); clear h5 hf5)
              all_goals go_wp2_with (fail)
              all_goals go_meet
              all_goals exact ⟨rfl, ⟨⟨_, _, _, _, BK5.out⟩⟩, FR5⟩
            case rest =>
              obtain ⟨rfl, ⟨x, Au, nu, cu, hbk⟩, FR⟩ := hcut
              have BK := Aside0.mk hbk
              have RB2 := Aside0.mk (FR.out.blk (blk_below RB.out HE.out) (Nat.le_refl _) (Nat.ne_of_lt GR.out))
              have HBC : Aside0 (Below w.heap.size w wc) := ⟨HBZ0.out.trans (FR.out.below HBZ0.out.size GB.out)⟩
              clear hbk
              go_wp2_with (first
                | (refine wpList_load_row rfl 24 (.tmp 6) rfl wo.heap.size rfl 24 (evC x (.slice Au nu cu)) (0, 0) _ BK.out Tryd.underlying24 rfl (by kernel_rfl) ?_)
                | (refine wpList_store_row rfl 24 (.tmp 2) (.tmp 32) rfl w.heap.size (evC x (.slice Au nu cu)) rfl rfl 24 _ RB2.out (by kernel_rfl) rfl (by kernel_rfl) ?_; have n9_ : Aside0 ((wc.setRow w.heap.size (evC x (.slice Au nu cu))).heap[w.heap.size]? = some (.cells (evC x (.slice Au nu cu)) 24 (0, 0))) := ⟨setRow_heap _ _ _ _ _ _ RB2.out⟩; have n8_ := Aside0.mk (below_setRow HBC.out (Nat.le_refl _) (evC x (.slice Au nu cu))); generalize wc.setRow w.heap.size (evC x (.slice Au nu cu)) = wy at n9_ n8_ ⊢))
              refine bodyPost_ret (results_ct rfl _ _ w.heap.size 24 (evC x (.slice Au nu cu)) (0, 0) _ rfl n9_.out Tryd.underlying24 rfl (by kernel_rfl)) rfl ?_
              rw [HOS.out]
              exact ⟨⟨_, _, _, _, rfl⟩, n8_.out⟩
        · have he1 : ((wordB k).toList == hd.toList) = false := beq_eq_false_iff_ne.2 he
          have HKN : Aside0 (kindOf hd = kindFrom hd (12 - (k + 1)) (k + 1)) := ⟨by rw [HKS.out, if_neg he]⟩
          clear he
          go_upto_region 7 with (go_at_call 23; refine (form_c2 k K1.out K2.out HCL.out wo.heap.size (⟨k, 0, 0, 0, 0, 0, 0, []⟩ : S24) (.slice none 0 0) _ rfl (heap_alloc_new _ _)).mono ?_; rintro e w2 ⟨_, bW, rfl, ⟨AF, rfl, hF⟩, hW, hb⟩; have HE := Aside0.mk ((bel1 wo (.cells (evC (⟨k, 0, 0, 0, 0, 0, 0, []⟩ : S24) (.slice none 0 0)) 24)).trans (hb.mono (by rw [size_alloc]; omega))); clear hF hb)
          have BF := Aside0.mk (heap_alloc_new w2 (.cells #[.string (wordB k), .slice AF (foK k).length (foK k).length, .pointer none, .slice (some ⟨bW, 0, none⟩) (wsK k).length (wsK k).length, .pointer (some ⟨wo.heap.size, 6, none⟩), .bool false] 48))
          have HE2 := Aside0.mk (HE.out.trans ((bel1 w2 (.cells #[.string (wordB k), .slice AF (foK k).length (foK k).length, .pointer none, .slice (some ⟨bW, 0, none⟩) (wsK k).length (wsK k).length, .pointer (some ⟨wo.heap.size, 6, none⟩), .bool false] 48)).mono HE.out.size))
          generalize w2.heap.size = g7 at BF ⊢
          generalize w2.alloc (.cells #[.string (wordB k), .slice AF (foK k).length (foK k).length, .pointer none, .slice (some ⟨bW, 0, none⟩) (wsK k).length (wsK k).length, .pointer (some ⟨wo.heap.size, 6, none⟩), .bool false] 48) = wz at *
          have y0 : wz.cell? ⟨g7, 0, none⟩ = some (.string (wordB k)) := (blk_cell BF.out 0).trans rfl
          have s0 : wz.cell? ⟨w.heap.size + 1, 0, none⟩ = some (.string hd) := (blk_cell (blk_below SB.out HE2.out) 0).trans rfl
          go_quiet (fail)
          all_goals go_wp2_with (fail)
          all_goals go_roundw
          case rel => exact ⟨k + 1, by go_num, by omega, by omega, HKN, ⟨pw_below_drewN (below_then HB1.out HB1.out.size HE2.out) _⟩⟩
          case measure => simp [intOf]; omega
    · obtain rfl : k = 12 := by omega
      have HOF : Aside0 (oneOf s = none) := ⟨by rw [HONE.out, HK.out]; rfl⟩
      have RB := Aside0.mk (blk_below BR.out HB1.out)
      have HBC : Aside0 (Below w.heap.size w wo) := ⟨HB.out.trans (HB1.out.mono HB.out.size)⟩
      go_wp2_with (refine wpList_store_row rfl 24 (.tmp 2) (.tmp 34) rfl w.heap.size (evC ⟨0, 0, 0, 0, 0, 0, 0, []⟩ (.slice none 0 0)) rfl rfl 24 _ RB.out (by kernel_rfl) rfl (by kernel_rfl) ?_; have n9_ : Aside0 ((wo.setRow w.heap.size (evC ⟨0, 0, 0, 0, 0, 0, 0, []⟩ (.slice none 0 0))).heap[w.heap.size]? = some (.cells (evC ⟨0, 0, 0, 0, 0, 0, 0, []⟩ (.slice none 0 0)) 24 (0, 0))) := ⟨setRow_heap _ _ _ _ _ _ RB.out⟩; have n8_ := Aside0.mk (below_setRow HBC.out (Nat.le_refl _) (evC ⟨0, 0, 0, 0, 0, 0, 0, []⟩ (.slice none 0 0))); generalize wo.setRow w.heap.size (evC ⟨0, 0, 0, 0, 0, 0, 0, []⟩ (.slice none 0 0)) = wy at n9_ n8_ ⊢)
      refine bodyPost_ret (results_ct rfl _ _ w.heap.size 24 (evC ⟨0, 0, 0, 0, 0, 0, 0, []⟩ (.slice none 0 0)) (0, 0) _ rfl n9_.out Tryd.underlying24 rfl (by kernel_rfl)) rfl ?_
      rw [HOF.out]
      exact ⟨⟨_, _, _, _, rfl⟩, n8_.out⟩
end Go.Proofs.YtiapfhlipoomaaaDoor.Given
end
section
namespace Go.Proofs.YtiapfhlipoomaaaDoor.Given
open Go.RowKit Go.Proofs.YtiapfhlipoomaaaDoorW.PrintWords Go.Proofs.YtiapfhlipoomaaaDoorW.PrintLast Go.Proofs.YtiapfhlipoomaaaDoorW.PrintMore Go.Proofs.YtiapfhlipoomaaaDoor.Print
set_option linter.unusedVariables false
set_option linter.unusedSimpArgs false
def parseRun (s : ByteArray) : Nat → Nat → Nat → List S24 → List S24 × Nat × Int
  | 0, _, _, _ => ([], 0, 0)
  | m + 1, pos, from_, out =>
    if pos < s.size then
      if (Utf8.decode s pos).1 = 10 then match oneOf (s.extract from_ pos) with
        | some e => parseRun s m (pos + (Utf8.decode s pos).2) (pos + 1) (out ++ [e])
        | none => ([], out.length + 1, 180)
      else parseRun s m (pos + (Utf8.decode s pos).2) from_ out
    else if from_ < s.size then ([], out.length + 1, 180) else (out, 0, 0)
def parseOf (s : ByteArray) : List S24 × Nat × Int := parseRun s (s.size + 1) 0 0 []
def ParseSays (w : World) (r : List S24 × Nat × Int) (e : Ending) (w' : World) : Prop :=
  ∃ A c, e = .returned (.tuple #[.slice A r.1.length c, .int .i64 (r.2.1 : Int), .int .i64 r.2.2]) ∧ Kd.S k24 24 w' w.heap.size (fun _ => True) (.slice A r.1.length c) r.1 ∧ Below w.heap.size w w'
theorem width_pos (s : ByteArray) (pos : Nat) (h : pos < s.size) : 1 ≤ (Utf8.decode s pos).2 := by
  by_cases ha : (s[pos]'h).toNat < 128
  · rw [decode_ascii s pos h ha]
    exact Nat.le_refl _
  · exact (decode_high s pos h (by omega)).2
theorem extract_size (s : ByteArray) (a b : Nat) : (s.extract a b).size ≤ s.size := by
  rw [ByteArray.size_extract]
  omega
theorem fr_iter {base g : Nat} {w w1 : World} (h : Fr base g w w1) (s : ByteArray) (pos : Nat) : Fr base g w (w1.iterAt g s pos) :=
  ⟨h.os, h.tape, h.output, by rw [Lib.iterAt_size]; exact h.size, fun k hk hg => (Lib.iterAt_other w1 g k s pos hg).trans (h.block k hk hg)⟩
set_option maxRecDepth 100000 in
set_option maxHeartbeats 16000000 in
theorem parse_any (s : ByteArray) (w : World) (hL : LW w) (hs : s.size < 4294967281) : Calls Tryd.prog 18 #[.string s] w (ParseSays w (parseOf s)) := by
  have hu24 := Tryd.underlying24
  have HL := Aside0.mk hL
  have HS := Aside0.mk hs
  clear hL hs
  go_enter Tryd.func18, Tryd.ntmps18
  go_wp2
  have BI0 := Aside0.mk (World.iter_heap w s 0)
  have HW0 : Aside0 (Below w.heap.size w (w.iter s 0)) := ⟨bel1 w _⟩
  have HWS : Aside0 (w.heap.size + 1 ≤ (w.iter s 0).heap.size) := ⟨by show w.heap.size + 1 ≤ (w.alloc _).heap.size; rw [size_alloc]; exact Nat.le_refl _⟩
  obtain ⟨g, hg⟩ : ∃ g, g = w.heap.size := ⟨_, rfl⟩
  have HG := Aside0.mk hg
  rw [← hg] at BI0 HWS ⊢
  generalize w.iter s 0 = wi at BI0 HW0 HWS ⊢
  clear hg
  go_loopw [5, 6] (fun v5 v6 wr => ∃ (pos m fr : Nat) (out : List S24), v6 = .int .i64 (fr : Int) ∧ fr ≤ pos ∧ out.length ≤ pos ∧ out.length ≤ s.size ∧ s.size + 1 ≤ pos + m ∧ 1 ≤ m ∧ Aside0 (parseOf s = parseRun s m pos fr out) ∧ Aside0 (Kd.S k24 24 wr (g + 1) (fun _ => True) v5 out) ∧ Aside0 (wr.heap[g]? = some (.stringIter s pos)) ∧ Aside0 (Fr (g + 1) g wi wr)) (fun _ _ wr => s.size + 4 - wr.iterPos g)
  case atStart => exact ⟨0, s.size + 1, 0, [], rfl, by omega, by simp, by simp, by omega, by omega, ⟨rfl⟩, ⟨Kd.S_nil _ _ _ _ _⟩, BI0, ⟨⟨rfl, rfl, rfl, Nat.le_refl _, fun _ _ _ => rfl⟩⟩⟩
  case round =>
    clear BI0
    obtain ⟨pos, m, fr, out, rfl, hfp, hol, hos, hpm, hm1, HP, HO, BI, FR⟩ := hrel
    obtain ⟨Ao, co, rfl⟩ := Kd.S_slice HO.out
    obtain ⟨m, rfl⟩ : ∃ m', m = m' + 1 := ⟨m - 1, by omega⟩
    have hs := HS.out
    have GW := Aside0.mk (blk_lt BI.out)
    by_cases hp : pos < s.size
    · have hnx : ∀ ty, (Instr.next (.pointer (some ⟨g, 0, none⟩)) true ty).run Tryd.prog wr = _ := fun ty => Lib.run_next_any_at wr g s pos ty BI.out hp
      have hwd := width_pos s pos hp
      have BI2 := Aside0.mk (Lib.iterAt_heap wr g s pos (pos + (Utf8.decode s pos).2) BI.out)
      have FR2 := Aside0.mk (fr_iter FR.out s (pos + (Utf8.decode s pos).2))
      have HO2 : Aside0 (Kd.S k24 24 (wr.iterAt g s (pos + (Utf8.decode s pos).2)) (g + 1) (fun k => k < wr.heap.size) (.slice Ao out.length co) out) := ⟨Kd.S_mono (Kd.S_step (Kd.S_bound HO.out) (fun k hk _ => Lib.iterAt_other wr g k s _ (by have := hk.2.1; omega))) (fun k hk => hk.2.2.1)⟩
      have HSZ2 : Aside0 ((wr.iterAt g s (pos + (Utf8.decode s pos).2)).heap.size = wr.heap.size) := ⟨Lib.iterAt_size _ _ _ _⟩
      obtain ⟨wd, hwdd⟩ : ∃ wd, wd = (Utf8.decode s pos).2 := ⟨_, rfl⟩
      by_cases h10 : (Utf8.decode s pos).1 = 10
      · have HP2 : Aside0 (parseOf s = match oneOf (s.extract fr pos) with
          | some e => parseRun s m (pos + (Utf8.decode s pos).2) (pos + 1) (out ++ [e])
          | none => ([], out.length + 1, 180)) := ⟨by rw [HP.out, parseRun, if_pos hp, if_pos h10]⟩
        rw [h10] at hnx
        rw [← hwdd] at hnx hwd BI2 FR2 HO2 HP2 HSZ2
        clear HP h10 HO FR hwdd
        generalize wr.iterAt g s (pos + wd) = wn at hnx BI2 FR2 HO2 HSZ2
        have HLW : Aside0 (LW wn) := ⟨HL.out.below (HW0.out.trans (FR2.out.below (by have := HG.out; omega) (by have := HG.out; omega)))⟩
        have hsl : ∀ W, (Instr.slice 9 (.string s) (some (.int .i64 (fr : Int))) (some (.int .i64 (pos : Int))) none).run Tryd.prog W = .ok (.string (s.extract fr pos)) W := fun W => by
          have := run_slice_string (P := Tryd.prog) W 9 s .i64 .i64 (fr : Int) (pos : Int) Tryd.underlying9 (by omega) (by omega) (by omega)
          simpa using this
        cases hone : oneOf (s.extract fr pos) with
        | none =>
          have HONE := Aside0.mk hone
          replace HP2 : Aside0 (parseOf s = ([], out.length + 1, 180)) := ⟨by rw [HP2.out, HONE.out]⟩
          clear hone
          go_wp2_with (go_at_call 37; refine (one_any (s.extract fr pos) _ HLW.out (Nat.lt_of_le_of_lt (extract_size _ _ _) HS.out)).mono ?_; rw [HONE.out]; rintro e w3 ⟨⟨x3, A3, n3, c3, rfl⟩, hb⟩; have NB := Aside0.mk hb; clear hb)
          go_ret3
          rw [HP2.out]
          exact ⟨none, 0, rfl, Kd.S_nil _ _ _ _ _, below_alloc (HW0.out.trans ((FR2.out.trans (Fr.of_below (NB.out.mono (Nat.le_trans HWS.out FR2.out.size)))).below (by have := HG.out; omega) (by have := HG.out; omega))) _⟩
        | some x =>
          have HONE := Aside0.mk hone
          replace HP2 : Aside0 (parseOf s = parseRun s m (pos + wd) (pos + 1) (out ++ [x])) := ⟨by rw [HP2.out, HONE.out]⟩
          have HTL : Aside0 ((out.length + 1) * 80 ≤ 140737488355328) := ⟨by omega⟩
          clear hone
          go_upto_region 8 with (go_at_call 37; refine (one_any (s.extract fr pos) _ HLW.out (Nat.lt_of_le_of_lt (extract_size _ _ _) HS.out)).mono ?_; rw [HONE.out]; rintro e w3 ⟨A3, c3, rfl, hr, hb⟩; have NB := Aside0.mk hb; have HR3 := Aside0.mk hr; clear hb hr)
          have BX := Aside0.mk (heap_alloc_new w3 (.cells (evC x (.slice A3 x.f7.length c3)) 24))
          have NB3 := Aside0.mk (NB.out.trans ((bel1 w3 (.cells (evC x (.slice A3 x.f7.length c3)) 24)).mono NB.out.size))
          have HR4 := Aside0.mk (Kd.R_below HR3.out (bel1 w3 (.cells (evC x (.slice A3 x.f7.length c3)) 24)))
          clear NB HR3
          generalize w3.heap.size = g9 at BX ⊢
          generalize w3.alloc (.cells (evC x (.slice A3 x.f7.length c3)) 24) = wk at BX NB3 HR4 ⊢
          have NB := NB3
          have HR3 := HR4
          clear NB3 HR4
          go_wp2_with (first
            | (refine wpList_load_row rfl 24 (.tmp 9) rfl g9 rfl 24 (evC x (.slice A3 x.f7.length c3)) (0, 0) _ BX.out Tryd.underlying24 rfl (by kernel_rfl) ?_)
            | ((with_reducible refine gate_builtin (b := .append) (xs := #[.tmp 32, .tmp 34]) rfl ?_); at_builtin; refine Kd.S_append k24 (w0 := wk) (g + 1) rfl (.tmp 32) (.tmp 34) 29 24 (.agg #[.int .i64 0, .int .i64 0, .int .i64 0, .int .i64 0, .int .i64 0, .int .i64 0, .int .i64 0, .slice none 0 0]) 80 rfl Tryd.underlying29 info24 rfl (by decide) (by omega) (.slice Ao out.length co) out x [.int .i64 x.f0, .int .i64 x.f1, .int .i64 x.f2, .int .i64 x.f3, .int .i64 x.f4, .int .i64 x.f5, .int .i64 x.f6, .slice A3 x.f7.length c3] (fun _ => True) (fun k => wn.heap.size ≤ k) rfl rfl ?aP ?aK (fun _ _ => trivial) ?aO (Below.refl _ _) ?aS HTL.out ?_; (case aP => exact k24_mkM _ _ _ x (Kd.R_lower HR3.out (by have := blk_lt BI2.out; omega))); (case aK => exact fun k hk => ⟨trivial, fun h => by have := Kd.S_lt HO2.out k h.symm; have := HSZ2.out; omega⟩); (case aO => exact Kd.S_mono (Kd.S_below HO2.out NB.out) (fun k hk => ⟨trivial, fun h => by have := HSZ2.out; omega⟩)); (case aS => have := blk_lt BI2.out; have := NB.out.size; omega); intro v4 w4 ho hb _ _; obtain ⟨A4, c4, rfl⟩ := Kd.S_slice ho; have HO4 := Aside0.mk ho; have NB4 := Aside0.mk hb; clear ho hb))
          have hBI := BI2.out
          have NBX := Aside0.mk ((NB.out.mono (by have := blk_lt hBI; omega : g + 1 ≤ wn.heap.size)).trans NB4.out)
          go_roundw
          case rel => exact ⟨pos + wd, m, pos + 1, out ++ [x], by go_num, by omega, by simp; omega, by simp; omega, by omega, by omega, HP2, by simpa using HO4, ⟨(NBX.out.block g (by omega)).trans hBI⟩, ⟨FR2.out.trans (Fr.of_below NBX.out)⟩⟩
          case measure => simp only [World.iterPos, (NBX.out.block g (by omega)).trans hBI, BI.out]; omega
      · have HP2 : Aside0 (parseOf s = parseRun s m (pos + (Utf8.decode s pos).2) fr out) := ⟨by rw [HP.out, parseRun, if_pos hp, if_neg h10]⟩
        obtain ⟨dc, hdc⟩ : ∃ dc, dc = (Utf8.decode s pos).1 := ⟨_, rfl⟩
        rw [← hdc] at hnx h10
        rw [← hwdd] at hnx hwd BI2 FR2 HO2 HP2 HSZ2
        have h10' : ((dc : Int) == 10) = false := by simpa using (fun h => h10 (by omega) : ¬ (dc : Int) = 10)
        clear HP h10 HO FR hwdd hdc
        generalize wr.iterAt g s (pos + wd) = wn at hnx BI2 FR2 HO2 HSZ2
        go_wp2
        go_roundw
        case rel => exact ⟨pos + wd, m, fr, out, rfl, by omega, by omega, by omega, by omega, by omega, HP2, ⟨Kd.S_mono HO2.out (fun _ _ => trivial)⟩, BI2, FR2⟩
        case measure => simp only [World.iterPos, BI2.out, BI.out]; omega
    · have hnx : ∀ ty, (Instr.next (.pointer (some ⟨g, 0, none⟩)) true ty).run Tryd.prog wr = _ := fun ty => Lib.run_next_end_at wr g s pos ty BI.out hp
      have HE : Aside0 (Below w.heap.size w wr) := ⟨HW0.out.trans (FR.out.below (by have := HG.out; omega) (by have := HG.out; omega))⟩
      have HGL : Aside0 (w.heap.size ≤ g + 1) := ⟨by have := HG.out; omega⟩
      by_cases hfs : fr < s.size
      · have HP2 : Aside0 (parseOf s = ([], out.length + 1, 180)) := ⟨by rw [HP.out, parseRun, if_neg hp, if_pos hfs]⟩
        have hd : decide ((fr : Int) < (s.size : Int)) = true := decide_eq_true (by omega)
        go_wp2
        go_ret3
        rw [HP2.out]
        exact ⟨none, 0, rfl, Kd.S_nil _ _ _ _ _, HE.out⟩
      · have HP2 : Aside0 (parseOf s = (out, 0, 0)) := ⟨by rw [HP.out, parseRun, if_neg hp, if_neg hfs]⟩
        have hd : decide ((fr : Int) < (s.size : Int)) = false := decide_eq_false (by omega)
        go_wp2
        go_ret3
        rw [HP2.out]
        exact ⟨Ao, co, rfl, Kd.S_lower HO.out HGL.out, HE.out⟩
end Go.Proofs.YtiapfhlipoomaaaDoor.Given
end
section
namespace Go.Proofs.YtiapfhlipoomaaaDoor.Given
open Go.RowKit Go.Proofs.YtiapfhlipoomaaaDoorW.PrintWords Go.Proofs.YtiapfhlipoomaaaDoorW.PrintLast Go.Proofs.YtiapfhlipoomaaaDoorW.PrintMore Go.Proofs.YtiapfhlipoomaaaDoor.Print
set_option linter.unusedVariables false
set_option linter.unusedSimpArgs false
def cap (n : Nat) : Int := if n ≤ 2147483647 then (n : Int) else 2147483648
theorem more_cap (a b : Nat) : squintlaw18_more.f (cap a) (cap b) = some (cap (a + b)) := by
  unfold squintlaw18_more.f cap
  by_cases h1 : a ≤ 2147483647
  · rw [if_pos h1, if_neg (by omega), show wrap64 (2147483647 - (a : Int)) = 2147483647 - (a : Int) by simp only [wrap64]; omega]
    by_cases h2 : b ≤ 2147483647
    · rw [if_pos h2]
      by_cases h3 : a + b ≤ 2147483647
      · rw [if_pos h3, if_neg (by omega), show wrap64 ((a : Int) + (b : Int)) = ((a + b : Nat) : Int) by simp only [wrap64]; omega]
      · rw [if_neg h3, if_pos (by omega)]
    · rw [if_neg h2, if_pos (by omega), if_neg (by omega)]
  · rw [if_neg h1, if_pos (by omega), if_neg (by omega)]
theorem cap_le (a : Nat) : (cap a ≤ 2147483647) = (a ≤ 2147483647) := by
  unfold cap
  split <;> simp <;> omega
theorem cap_gt (a : Nat) : (cap a > 2147483647) = (¬ a ≤ 2147483647) := by
  unfold cap
  split <;> simp <;> omega
def evz : List S24 → Nat
  | [] => 0
  | x :: l => 120 + x.f7.length * 21 + evz l
theorem evz_len : ∀ (l : List S24), l.length * 120 ≤ evz l
  | [] => by simp [evz]
  | x :: a => by have := evz_len a; simp only [evz, List.length_cons]; omega
theorem beyond_go {l : List S24} (hl : l.length ≤ 4611686018427387904) : ∀ (n j a : Nat), l.length - j = n → j ≤ l.length →
    ∃ k, squintlaw18_beyond.l0 k l (cap a) (j : Int) = some (decide (¬ a + evz (l.drop j) ≤ 2147483647))
  | 0, j, a, hn, hj => by
    have e : j = l.length := by omega
    refine ⟨2, ?_⟩
    unfold squintlaw18_beyond.l0
    rw [if_neg (by omega)]
    unfold squintlaw18_beyond.j1
    rw [if_neg (by decide)]
    subst e
    simp only [cap_gt, List.drop_length, evz, Nat.add_zero]
  | n + 1, j, a, hn, hj => by
    have hlt : j < l.length := by omega
    have ed := List.drop_eq_getElem_cons hlt
    by_cases ha : a ≤ 2147483647
    · have ei : rd_T24 l (j : Int) = l[j] := by simp [rd_T24, hlt]
      by_cases h7 : l[j].f7.length ≤ 102261126
      · obtain ⟨q, hq⟩ := beyond_go hl n (j + 1) (a + 120 + l[j].f7.length * 21) (by omega) (by omega)
        refine ⟨q + 2, ?_⟩
        unfold squintlaw18_beyond.l0
        rw [if_pos (by omega), decide_eq_true (by rw [cap_le]; exact ha)]
        unfold squintlaw18_beyond.j1
        rw [if_pos rfl, show (120 : Int) = cap 120 by decide, more_cap]
        simp only [Option.bind_some]
        rw [if_pos (by omega), if_pos (by omega), ei, if_neg (by omega), show wrap64 ((l[j].f7.length : Int) * 21) = cap (l[j].f7.length * 21) by unfold cap; rw [if_pos (by omega)]; simp only [wrap64]; omega, more_cap]
        simp only [Option.bind_some]
        rw [show wrap64 ((j : Int) + 1) = ((j + 1 : Nat) : Int) by simp only [wrap64]; omega, hq, ed]
        simp only [evz]
        congr 2
        rw [show a + 120 + l[j].f7.length * 21 + evz (l.drop (j + 1)) = a + (120 + l[j].f7.length * 21 + evz (l.drop (j + 1))) by omega]
      · refine ⟨2, ?_⟩
        unfold squintlaw18_beyond.l0
        rw [if_pos (by omega), decide_eq_true (by rw [cap_le]; exact ha)]
        unfold squintlaw18_beyond.j1
        rw [if_pos rfl, show (120 : Int) = cap 120 by decide, more_cap]
        simp only [Option.bind_some]
        rw [if_pos (by omega), if_pos (by omega), ei, if_pos (by omega)]
        refine congrArg some (Eq.symm (decide_eq_true ?_))
        rw [ed]
        simp only [evz]
        omega
    · refine ⟨2, ?_⟩
      unfold squintlaw18_beyond.l0
      rw [if_pos (by omega), decide_eq_false (by rw [cap_le]; exact ha)]
      unfold squintlaw18_beyond.j1
      rw [if_neg (by decide)]
      simp only [cap_gt]
      rw [decide_eq_true ha, decide_eq_true (by omega)]
theorem beyond_says (l : List S24) (hl : l.length ≤ 4611686018427387904) : ∃ k, squintlaw18_beyond.f k l = some (decide (¬ evz l ≤ 2147483647)) := by
  obtain ⟨k, hk⟩ := beyond_go hl l.length 0 0 rfl (Nat.zero_le _)
  rw [List.drop_zero, Nat.zero_add] at hk
  exact ⟨k, hk⟩
theorem dec_len : ∀ (k u : Nat), u < 10 ^ (k + 1) → (Lib.decDigits u).length ≤ k + 1
  | 0, u, h => by
    rw [Lib.decDigits, dif_pos (by omega)]
    simp
  | k + 1, u, h => by
    rw [Lib.decDigits]
    split
    · simp
    · have := dec_len k (u / 10) (by rw [Nat.pow_succ] at h; omega)
      simp only [List.length_append, List.length_cons, List.length_nil]
      omega
theorem itoa_len (n : Int) (h : -9223372036854775808 ≤ n ∧ n ≤ 9223372036854775807) : (itoaB n).size ≤ 20 := by
  have hs : (itoaB n).size = (Lib.itoa n).length := by simp [itoaB, ByteArray.size]
  rw [hs]
  unfold Lib.itoa
  split
  · have := dec_len 18 n.natAbs (by omega)
    simp only [List.length_cons]
    omega
  · have := dec_len 18 n.toNat (by omega)
    omega
def wsz : List ByteArray → Nat
  | [] => 0
  | x :: l => x.size + 1 + wsz l
theorem wsz_app : ∀ (a b : List ByteArray), wsz (a ++ b) = wsz a + wsz b
  | [], b => by simp [wsz]
  | x :: a, b => by simp only [List.cons_append, wsz, wsz_app a b]; omega
theorem wsz_le {n : Nat} : ∀ (a : List ByteArray), (∀ x ∈ a, x.size ≤ n) → wsz a ≤ a.length * (n + 1)
  | [], _ => by simp [wsz]
  | x :: a, h => by
    have h1 := wsz_le a (fun y hy => h y (List.mem_cons_of_mem _ hy))
    have h2 := h x (List.mem_cons_self ..)
    simp only [wsz, List.length_cons, Nat.succ_mul]
    omega
theorem join_sz : ∀ (xs : List ByteArray), (Lib.join (xs.map (·.data.toList)) [32]).length ≤ wsz xs
  | [] => Nat.zero_le _
  | [x] => by
    have e : x.data.toList.length = x.size := Array.length_toList
    have e2 : Lib.join ([x].map (·.data.toList)) [32] = x.data.toList := by simp [Lib.join, List.intercalate]
    rw [e2, e]
    unfold wsz
    omega
  | x :: y :: l => by
    have h1 := join_sz (y :: l)
    have e : x.data.toList.length = x.size := Array.length_toList
    have e2 : Lib.join ((x :: y :: l).map (·.data.toList)) [32] = x.data.toList ++ [32] ++ Lib.join ((y :: l).map (·.data.toList)) [32] := by simp [Lib.join, List.intercalate, List.intersperse]
    rw [e2, List.length_append, List.length_append, e]
    have e3 : ([32] : List UInt8).length = 1 := rfl
    rw [e3]
    unfold wsz
    omega
theorem line_sz (xs : List ByteArray) : (lineB xs).size ≤ wsz xs + 1 := by
  rw [lineB_size, joinB_size]
  exact Nat.add_le_add_right (join_sz xs) 1
theorem word_len (k : Nat) : (wordB k).size ≤ 5 := by unfold wordB; split <;> decide
theorem some_len (k n : Nat) : ((wsK k).getD n ⟨#[]⟩).size ≤ 6 := by
  have key : ∀ (l : List ByteArray), (∀ x ∈ l, x.size ≤ 6) → (l.getD n ⟨#[]⟩).size ≤ 6 := by
    intro l h
    rw [List.getD_eq_getElem?_getD]
    rcases hx : l[n]? with _ | x
    · show (0 : Nat) ≤ 6; omega
    · exact h x (List.mem_of_getElem? hx)
  refine key _ ?_
  unfold wsK
  split <;> decide
theorem cls1_fo (k : Nat) (h : clsK k = 1) : (foK k).length ≤ 2 := by
  unfold clsK at h
  split at h <;> simp_all [foK]
theorem words_sz (x : S24) (h : rngX x) : wsz (wordsX x) ≤ 119 + x.f7.length * 21 := by
  have hw := word_len x.f0.toNat
  have hfl := fo_len x.f0.toNat
  have h1 : wsz ((foK x.f0.toNat).map (fun o => itoaB (getK x o))) ≤ (foK x.f0.toNat).length * 21 := by
    have := wsz_le (n := 20) ((foK x.f0.toNat).map (fun o => itoaB (getK x o))) (fun y hy => by
      obtain ⟨o, ho, rfl⟩ := List.mem_map.1 hy
      exact itoa_len _ (h.1 o (fo_le _ o ho).2))
    rwa [List.length_map] at this
  have h2 : wsz (x.f7.map itoaB) ≤ x.f7.length * 21 := by
    have := wsz_le (n := 20) (x.f7.map itoaB) (fun y hy => by
      obtain ⟨o, ho, rfl⟩ := List.mem_map.1 hy
      exact itoa_len _ (h.2 o ho))
    rwa [List.length_map] at this
  have h3 : wsz (wordsM x.f0.toNat x) ≤ 7 ∨ ((foK x.f0.toNat).length ≤ 2 ∧ wsz (wordsM x.f0.toNat x) ≤ 21) := by
    unfold wordsM
    by_cases c1 : clsK x.f0.toNat = 1
    · rw [if_pos c1]
      exact .inr ⟨cls1_fo _ c1, by simp only [wsz]; have := itoa_len x.f6 (h.1 6 (by omega)); omega⟩
    · rw [if_neg c1]
      by_cases c2 : clsK x.f0.toNat = 2
      · rw [if_pos c2]
        exact .inl (by simp only [wsz]; have := some_len x.f0.toNat x.f6.toNat; omega)
      · rw [if_neg c2]
        exact .inl (by simp [wsz])
  unfold wordsX wordsK wordsF
  simp only [List.cons_append, wsz, wsz_app]
  rcases h3 with h3 | ⟨h4, h3⟩ <;> omega
theorem text_len : ∀ (l : List S24) (acc : ByteArray), (∀ x ∈ l, rngX x) → (l.foldl (fun acc x => acc ++ lineB (wordsX x)) acc).size ≤ acc.size + evz l
  | [], acc, h => Nat.le_refl _
  | x :: l, acc, h => by
    have h1 := text_len l (acc ++ lineB (wordsX x)) (fun y hy => h y (List.mem_cons_of_mem _ hy))
    have h2 := line_sz (wordsX x)
    have h3 := words_sz x (h x (List.mem_cons_self ..))
    rw [size_append] at h1
    simp only [List.foldl_cons, evz]
    omega
theorem text_evz (l : List S24) (h : ∀ x ∈ l, rngX x) : (textOf l).size ≤ evz l := by
  have := text_len l ⟨#[]⟩ h
  have e : (ByteArray.mk #[]).size = 0 := rfl
  unfold textOf
  omega
end Go.Proofs.YtiapfhlipoomaaaDoor.Given
end
section
namespace Go.Proofs.YtiapfhlipoomaaaDoor.Given
open Go.RowKit Go.Proofs.YtiapfhlipoomaaaDoorW.PrintWords Go.Proofs.YtiapfhlipoomaaaDoorW.PrintLast Go.Proofs.YtiapfhlipoomaaaDoorW.PrintMore Go.Proofs.YtiapfhlipoomaaaDoor.Print
set_option linter.unusedVariables false
set_option linter.unusedSimpArgs false
def joinS (w : List UInt8) (ws : List (List UInt8)) : List UInt8 := w ++ ws.flatMap (fun x => 32 :: x)
theorem join_cons (w x : List UInt8) (ws : List (List UInt8)) : joinS w (x :: ws) = w ++ 32 :: joinS x ws := by simp [joinS]
theorem bytes_ext {a b : ByteArray} (h : a.data.toList = b.data.toList) : a = b := by
  cases a with | mk da => cases b with | mk db =>
  have : da = db := Array.ext' h
  rw [this]
theorem app_list (a b : ByteArray) : (a ++ b).data.toList = a.data.toList ++ b.data.toList := by simp [ByteArray.data_append]
end Go.Proofs.YtiapfhlipoomaaaDoor.Given
end
section
namespace Go.Proofs.YtiapfhlipoomaaaDoor.Given
open Go.RowKit Go.Proofs.YtiapfhlipoomaaaDoorW.PrintWords Go.Proofs.YtiapfhlipoomaaaDoorW.PrintLast Go.Proofs.YtiapfhlipoomaaaDoorW.PrintMore Go.Proofs.YtiapfhlipoomaaaDoor.Print
set_option linter.unusedVariables false
set_option linter.unusedSimpArgs false
abbrev Rng (n : Int) : Prop := -9223372036854775808 ≤ n ∧ n ≤ 9223372036854775807
theorem join_list : ∀ (ws : List (List UInt8)) (w : List UInt8), Lib.join (w :: ws) [32] = joinS w ws
  | [], w => by simp [Lib.join, List.intercalate, joinS]
  | x :: ws, w => by
    have ih := join_list ws x
    rw [join_cons, ← ih]
    simp [Lib.join, List.intercalate, List.intersperse]
theorem join_bytes (w : ByteArray) (ws : List ByteArray) : (joinB (w :: ws)).data.toList = joinS w.data.toList (ws.map (fun b => b.data.toList)) := by
  show (Lib.join ((w :: ws).map (fun b => b.data.toList)) [32]).toArray.toList = _
  rw [List.toList_toArray, List.map_cons, join_list]
theorem eleven {k : Nat} (h1 : 1 ≤ k) (h2 : k ≤ 11) : k = 1 ∨ k = 2 ∨ k = 3 ∨ k = 4 ∨ k = 5 ∨ k = 6 ∨ k = 7 ∨ k = 8 ∨ k = 9 ∨ k = 10 ∨ k = 11 := by omega
def wordsR (k : Nat) (x : S24) : List ByteArray := if clsK k = 2 then [(wsK k).getD x.f6.toNat ⟨#[]⟩] else []
theorem words_parts (k : Nat) (x : S24) : wordsK k x = wordB k :: ((atK k).map (fun o => itoaB (getK x o)) ++ (wordsR k x ++ x.f7.map itoaB)) := by
  unfold wordsK wordsF wordsM wordsR atK
  by_cases c1 : clsK k = 1
  · rw [if_pos c1, if_pos c1, if_neg (by omega)]
    simp
    rfl
  · rw [if_neg c1, if_neg c1]
    simp
end Go.Proofs.YtiapfhlipoomaaaDoor.Given
end
section
namespace Go.Proofs.YtiapfhlipoomaaaDoor.Given
open Go.RowKit Go.Proofs.YtiapfhlipoomaaaDoorW.PrintWords Go.Proofs.YtiapfhlipoomaaaDoorW.PrintLast Go.Proofs.YtiapfhlipoomaaaDoorW.PrintMore Go.Proofs.YtiapfhlipoomaaaDoor.Print
set_option linter.unusedVariables false
set_option linter.unusedSimpArgs false
theorem list_size (b : ByteArray) : b.data.toList.length = b.size := Array.length_toList
theorem words_cons (x : S24) : ∃ w ws, wordsX x = w :: ws := ⟨_, _, words_parts x.f0.toNat x⟩
end Go.Proofs.YtiapfhlipoomaaaDoor.Given
end
section
namespace Go.Proofs.YtiapfhlipoomaaaDoor.Given
open Go.RowKit Go.Proofs.YtiapfhlipoomaaaDoorW.PrintWords Go.Proofs.YtiapfhlipoomaaaDoorW.PrintLast Go.Proofs.YtiapfhlipoomaaaDoorW.PrintMore Go.Proofs.YtiapfhlipoomaaaDoor.Print
set_option linter.unusedVariables false
set_option linter.unusedSimpArgs false
theorem num_str (d : Nat) (h : d < 10) : strOfNums [(IntKind.u64.wrap (48 + (d : Int))) % 256] = ⟨#[UInt8.ofNat (48 + d)]⟩ := by
  have key : ∀ d : Fin 10, strOfNums [(IntKind.u64.wrap (48 + (d.val : Int))) % 256] = ⟨#[UInt8.ofNat (48 + d.val)]⟩ := by decide +kernel
  exact key ⟨d, h⟩
def preD (u : Nat) : List UInt8 := if u < 10 then [] else Lib.decDigits (u / 10)
theorem dec_pre (u : Nat) : Lib.decDigits u = preD u ++ [UInt8.ofNat (48 + u % 10)] := by
  rw [Lib.decDigits]
  unfold preD
  split
  · rw [List.nil_append, Nat.mod_eq_of_lt (by assumption)]
  · rfl
theorem u64_in (n : Int) (h : 0 ≤ n ∧ n < 18446744073709551616) : IntKind.u64.wrap n = n := by
  simp [IntKind.wrap, IntKind.signed, IntKind.bits]
  omega
theorem digit_of (u : Nat) (h : u < 18446744073709551616) : strOfNums [(IntKind.u64.wrap (48 + (Int.tmod (u : Int) 10))) % 256] = ⟨#[UInt8.ofNat (48 + u % 10)]⟩ := by
  rw [Int.tmod_eq_emod_of_nonneg (by omega), show ((u : Int) % 10) = ((u % 10 : Nat) : Int) by omega]
  exact num_str _ (by omega)
theorem plain_loop : ∀ (k u : Nat) (s : ByteArray), u < 10 ^ k → u < 18446744073709551616 → s.size + k ≤ 1000 → squintref18_plain.l0 (k + 1) (u : Int) s = some (⟨(preD u).toArray⟩ ++ s)
  | k, u, s, hu, hb, hs => by
    unfold squintref18_plain.l0
    by_cases h : u < 10
    · rw [if_neg (by omega)]
      refine congrArg some (bytes_ext ?_)
      rw [app_list]
      simp [preD, h]
    · match k, hu, hs with
      | 0, hu, _ => simp at hu; omega
      | k + 1, hu, hs =>
        have e1 : IntKind.u64.wrap (Int.tdiv (u : Int) 10) = ((u / 10 : Nat) : Int) := by
          rw [Int.tdiv_eq_ediv_of_nonneg (by omega), u64_in _ (by omega)]
          omega
        rw [if_pos (by omega), e1]
        simp only [Option.bind_some]
        rw [digit_of _ (by omega), if_pos (by have : (ByteArray.mk #[UInt8.ofNat (48 + u / 10 % 10)]).size = 1 := rfl; omega)]
        rw [plain_loop k (u / 10) _ (by rw [Nat.pow_succ] at hu; omega) (by omega) (by rw [size_append]; have : (ByteArray.mk #[UInt8.ofNat (48 + u / 10 % 10)]).size = 1 := rfl; omega)]
        refine congrArg some (bytes_ext ?_)
        rw [app_list, app_list, app_list]
        simp only [preD, if_neg h]
        rw [dec_pre (u / 10)]
        simp [preD]
theorem plain_says (u : Nat) (h : u < 18446744073709551616) : squintref18_plain.f 21 (u : Int) = some ⟨(Lib.decDigits u).toArray⟩ := by
  unfold squintref18_plain.f
  rw [digit_of _ h, plain_loop 20 u _ (by omega) h (by show 1 + 20 ≤ 1000; decide)]
  refine congrArg some (bytes_ext ?_)
  rw [app_list, dec_pre]
theorem digits_says (n : Int) (h : Rng n) : squintref18_digits.f 21 n = some (itoaB n) := by
  unfold Rng at h
  unfold squintref18_digits.f
  by_cases hn : n < 0
  · have e : IntKind.u64.wrap ((IntKind.u64.wrap (wrap64 (-(wrap64 (n + 1))))) + 1) = ((n.natAbs : Nat) : Int) := by
      rw [show wrap64 (n + 1) = n + 1 by simp only [wrap64]; omega, show wrap64 (-(n + 1)) = -(n + 1) by simp only [wrap64]; omega, u64_in (-(n + 1)) (by omega), u64_in _ (by omega)]
      omega
    rw [if_pos hn, e, plain_says _ (by omega)]
    simp only [Option.bind_some]
    have hl := dec_len 19 n.natAbs (by omega)
    have hsz : (ByteArray.mk (Lib.decDigits n.natAbs).toArray).size = (Lib.decDigits n.natAbs).length := by
      show (Lib.decDigits n.natAbs).toArray.size = _
      rw [List.size_toArray]
    rw [if_pos (by rw [hsz]; omega)]
    refine congrArg some (bytes_ext ?_)
    rw [app_list]
    unfold itoaB Lib.itoa
    rw [if_pos hn]
    simp
  · have e : IntKind.u64.wrap n = ((n.toNat : Nat) : Int) := by
      rw [u64_in _ (by omega)]
      omega
    rw [if_neg hn, e, plain_says _ (by omega)]
    simp only [Option.bind_some]
    refine congrArg some (bytes_ext ?_)
    unfold itoaB Lib.itoa
    rw [if_neg hn]
theorem digits_any (n : Int) (h : Rng n) (w : World) : Calls Tryd.prog 47 #[.int .i64 n] w fun e w' => e = .returned (.string (itoaB n)) ∧ Below w.heap.size w w' :=
  squintref18_digits.calls 21 n _ w (digits_says n h)
end Go.Proofs.YtiapfhlipoomaaaDoor.Given
end
