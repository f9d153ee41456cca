/- trace.Check at the kinds without a word of some. -/
import Derived.Test.YtiapfhlipoomaaaDoorGivenBN
import Derived.Test.YtiapfhlipoomaaaDoorPlainC
namespace Go.Proofs.YtiapfhlipoomaaaDoor.Given
open Go.RowKit Go.Proofs.YtiapfhlipoomaaaDoorW.PrintWords Go.Proofs.YtiapfhlipoomaaaDoorW.PrintLast Go.Proofs.YtiapfhlipoomaaaDoorW.PrintMore Go.Proofs.YtiapfhlipoomaaaDoor.Print
set_option linter.unusedVariables false
set_option linter.unusedSimpArgs false

/-- The event with some of its numbers alone. -/
def onlyA (x : S24) (fo : List Nat) : S24 := fo.foldl (fun y o => setK y (getK x o) o) ⟨x.f0, 0, 0, 0, 0, 0, 0, []⟩
theorem ev_noptr {w : World} {g n c : Nat} {x : S24} {A : Option Addr} {a : Addr} {v : Option Addr} (hg : w.heap[g]? = some (.cells (evC x (.slice A n c)) 24 (0, 0))) (hc : w.cell? a = some (.pointer v)) : a.block ≠ g := by
  rintro rfl
  unfold World.cell? at hc
  rw [hg] at hc
  simp only at hc
  split at hc
  · cases hc
  · generalize a.off = o at hc
    rcases o with _ | _ | _ | _ | _ | _ | _ | _ | o <;> simp [evC] at hc
theorem onlyA_snoc (x : S24) (fo : List Nat) (o : Nat) : onlyA x (fo ++ [o]) = setK (onlyA x fo) (getK x o) o := by simp [onlyA]
theorem onlyA_f0 (x : S24) (fo : List Nat) : (onlyA x fo).f0 = x.f0 := by
  unfold onlyA
  have : ∀ (fo : List Nat) (y : S24), (fo.foldl (fun y o => setK y (getK x o) o) y).f0 = y.f0 := by
    intro fo
    induction fo with
    | nil => intro y; rfl
    | cons o r ih => intro y; rw [List.foldl_cons, ih, setK_f0]
  exact this _ _
/-- What is left of an event by its kind. -/
def onlyK (k : Nat) (x : S24) : S24 := ⟨(onlyA x (atK k)).f0, (onlyA x (atK k)).f1, (onlyA x (atK k)).f2, (onlyA x (atK k)).f3, (onlyA x (atK k)).f4, (onlyA x (atK k)).f5, (onlyA x (atK k)).f6, if liK k then x.f7 else []⟩
theorem ok_neg (k o : Nat) (x : S24) (ho : o ∈ foK k) (hn : getK x o < 0) : checkK k x = 180 := by
  refine if_neg (fun h => ?_)
  unfold okK at h
  split at h <;> simp only [foK, List.mem_cons, List.not_mem_nil, or_false] at ho <;> (try simp only [Bool.and_eq_true, decide_eq_true_eq] at h) <;> (try (rcases ho with rfl | rfl | rfl | rfl | rfl)) <;> (try (rcases ho with rfl | rfl)) <;> (try subst ho) <;> simp only [getK] at hn <;> first | omega | cases h | cases ho
theorem ok_same (k : Nat) (hc : clsK k < 2) (h1 : 1 ≤ k) (h2 : k ≤ 11) (x : S24) (hk : x.f0 = k) (hp : ∀ o ∈ foK k, 0 ≤ getK x o) : okK k x = true ↔ sameP x (onlyK k x) ∧ risesB x.f7 = true := by
  match k, h1, h2, hc with
  | 1, _, _, _ => 
    simp only [foK, List.mem_cons, List.not_mem_nil, or_false, forall_eq_or_imp, forall_eq, getK, false_imp_iff, implies_true] at hp
    simp only [okK, onlyK, onlyA, atK, foK, clsK, liK, sameP, setK, getK, List.foldl_cons, List.foldl_nil, List.cons_append, List.nil_append, Bool.and_eq_true, decide_eq_true_eq, if_true, reduceCtorEq, if_false, true_and, List.append_nil, Nat.reduceEqDiff]
    constructor
    · intro h
      simp_all [risesB, risesFrom]
    · intro h
      simp_all [risesB, risesFrom]
  | 2, _, _, _ => 
    simp only [foK, List.mem_cons, List.not_mem_nil, or_false, forall_eq_or_imp, forall_eq, getK, false_imp_iff, implies_true] at hp
    simp only [okK, onlyK, onlyA, atK, foK, clsK, liK, sameP, setK, getK, List.foldl_cons, List.foldl_nil, List.cons_append, List.nil_append, Bool.and_eq_true, decide_eq_true_eq, if_true, reduceCtorEq, if_false, true_and, List.append_nil, Nat.reduceEqDiff]
    constructor
    · intro h
      simp_all [risesB, risesFrom]
    · intro h
      simp_all [risesB, risesFrom]
  | 3, _, _, _ => 
    simp only [foK, List.mem_cons, List.not_mem_nil, or_false, forall_eq_or_imp, forall_eq, getK, false_imp_iff, implies_true] at hp
    simp only [okK, onlyK, onlyA, atK, foK, clsK, liK, sameP, setK, getK, List.foldl_cons, List.foldl_nil, List.cons_append, List.nil_append, Bool.and_eq_true, decide_eq_true_eq, if_true, reduceCtorEq, if_false, true_and, List.append_nil, Nat.reduceEqDiff]
    constructor
    · intro h
      simp_all [risesB, risesFrom]
    · intro h
      simp_all [risesB, risesFrom]
  | 4, _, _, _ => 
    simp only [foK, List.mem_cons, List.not_mem_nil, or_false, forall_eq_or_imp, forall_eq, getK, false_imp_iff, implies_true] at hp
    simp only [okK, onlyK, onlyA, atK, foK, clsK, liK, sameP, setK, getK, List.foldl_cons, List.foldl_nil, List.cons_append, List.nil_append, Bool.and_eq_true, decide_eq_true_eq, if_true, reduceCtorEq, if_false, true_and, List.append_nil, Nat.reduceEqDiff]
    constructor
    · intro h
      simp_all [risesB, risesFrom]
    · intro h
      simp_all [risesB, risesFrom]
  | 5, _, _, _ => 
    simp only [foK, List.mem_cons, List.not_mem_nil, or_false, forall_eq_or_imp, forall_eq, getK, false_imp_iff, implies_true] at hp
    simp only [okK, onlyK, onlyA, atK, foK, clsK, liK, sameP, setK, getK, List.foldl_cons, List.foldl_nil, List.cons_append, List.nil_append, Bool.and_eq_true, decide_eq_true_eq, if_true, reduceCtorEq, if_false, true_and, List.append_nil, Nat.reduceEqDiff]
    constructor
    · intro h
      simp_all [risesB, risesFrom]
    · intro h
      simp_all [risesB, risesFrom]
  | 6, _, _, hc => exact absurd hc (by decide)
  | 7, _, _, _ => 
    simp only [foK, List.mem_cons, List.not_mem_nil, or_false, forall_eq_or_imp, forall_eq, getK, false_imp_iff, implies_true] at hp
    simp only [okK, onlyK, onlyA, atK, foK, clsK, liK, sameP, setK, getK, List.foldl_cons, List.foldl_nil, List.cons_append, List.nil_append, Bool.and_eq_true, decide_eq_true_eq, if_true, reduceCtorEq, if_false, true_and, List.append_nil, Nat.reduceEqDiff]
    constructor
    · intro h
      simp_all [risesB, risesFrom]
    · intro h
      simp_all [risesB, risesFrom]
  | 8, _, _, _ => 
    simp only [foK, List.mem_cons, List.not_mem_nil, or_false, forall_eq_or_imp, forall_eq, getK, false_imp_iff, implies_true] at hp
    simp only [okK, onlyK, onlyA, atK, foK, clsK, liK, sameP, setK, getK, List.foldl_cons, List.foldl_nil, List.cons_append, List.nil_append, Bool.and_eq_true, decide_eq_true_eq, if_true, reduceCtorEq, if_false, true_and, List.append_nil, Nat.reduceEqDiff]
    constructor
    · intro h
      simp_all [risesB, risesFrom]
    · intro h
      simp_all [risesB, risesFrom]
  | 9, _, _, _ => 
    simp only [foK, List.mem_cons, List.not_mem_nil, or_false, forall_eq_or_imp, forall_eq, getK, false_imp_iff, implies_true] at hp
    simp only [okK, onlyK, onlyA, atK, foK, clsK, liK, sameP, setK, getK, List.foldl_cons, List.foldl_nil, List.cons_append, List.nil_append, Bool.and_eq_true, decide_eq_true_eq, if_true, reduceCtorEq, if_false, true_and, List.append_nil, Nat.reduceEqDiff]
    constructor
    · intro h
      simp_all [risesB, risesFrom]
    · intro h
      simp_all [risesB, risesFrom]
  | 10, _, _, _ => 
    simp only [foK, List.mem_cons, List.not_mem_nil, or_false, forall_eq_or_imp, forall_eq, getK, false_imp_iff, implies_true] at hp
    simp only [okK, onlyK, onlyA, atK, foK, clsK, liK, sameP, setK, getK, List.foldl_cons, List.foldl_nil, List.cons_append, List.nil_append, Bool.and_eq_true, decide_eq_true_eq, if_true, reduceCtorEq, if_false, true_and, List.append_nil, Nat.reduceEqDiff]
    constructor
    · intro h
      simp_all [risesB, risesFrom]
    · intro h
      simp_all [risesB, risesFrom]
  | 11, _, _, hc => exact absurd hc (by decide)
  | k + 12, _, h, _ => exact absurd h (by omega)
theorem check_is (k : Nat) (hc : clsK k < 2) (h1 : 1 ≤ k) (h2 : k ≤ 11) (x : S24) (hk : x.f0 = k) (hp : ∀ o ∈ foK k, 0 ≤ getK x o) (b : Bool) (hb : b = true ↔ sameP x (onlyK k x) ∧ risesB x.f7 = true) : checkK k x = if b then 0 else 180 := by
  unfold checkK
  have := ok_same k hc h1 h2 x hk hp
  cases b
  · rw [if_neg (fun h => by have := hb.2 (this.1 h); cases this)]; rfl
  · rw [if_pos (this.2 (hb.1 rfl))]; rfl
theorem li_c1 (k : Nat) (h : clsK k = 1) : liK k = false := by
  unfold clsK at h
  split at h <;> first | rfl | cases h
set_option maxRecDepth 100000 in
set_option maxHeartbeats 8000000 in
theorem check_c0 (k : Nat) (h1 : 1 ≤ k) (h2 : k ≤ 11) (hc : clsK k = 0) (x : S24) (hk : x.f0 = k) (A : Option Addr) (cap : Nat) (w : World) (hr : Kd.C (Kd.int .i64) w A x.f7.length x.f7) (hcap : x.f7.length ≤ cap) :
    Calls Tryd.prog 10 #[evV x A cap] w fun e w' => e = .returned (.int .i64 (checkK k x)) ∧ Below w.heap.size w w' := by
  have hu24 := Tryd.underlying24
  have hu48 := Tryd.underlying48
  have hu46 := Tryd.underlying46
  have HR := Aside0.mk hr
  have HCAP := Aside0.mk hcap
  have HCL := Aside0.mk hc
  have HKK := Aside0.mk hk
  have hfl := fo_len k
  have T1 := Aside0.mk True.intro
  clear hr hcap hc hk
  go_enter Tryd.func10, Tryd.ntmps10
  go_upto_region 6 with (first
    | (go_at_call 23; clear T1; refine (form_c0 k h1 h2 HCL.out _ x (.slice A x.f7.length cap) _ HKK.out (hp_lt _ _ _ _ (heap_alloc_new _ _))).mono ?_; rintro e w1 ⟨_, rfl, ⟨AF, rfl, hF⟩, hb⟩; have BE := Aside0.mk (blk_below (hp_lt _ _ _ _ (heap_alloc_new w (.cells (evC x (.slice A x.f7.length cap)) 24))) hb); have BO := Aside0.mk (blk_below (hp_new _ (.cells (evC ⟨x.f0, 0, 0, 0, 0, 0, 0, []⟩ (.slice none 0 0)) 24) (w.heap.size + 1) (by rw [size_alloc])) hb); have FF := Aside0.mk hF; have HZ := Aside0.mk ((bel2 w (.cells (evC x (.slice A x.f7.length cap)) 24) (.cells (evC ⟨x.f0, 0, 0, 0, 0, 0, 0, []⟩ (.slice none 0 0)) 24)).trans (hb.mono (by rw [size_alloc, size_alloc]; omega))); clear hF hb)
    | (go_at_call 23; refine (form_c0 k h1 h2 HCL.out _ (⟨x.f0, 0, 0, 0, 0, 0, 0, []⟩ : S24) (.slice none 0 0) _ HKK.out (hp_lt _ _ _ _ BO.out)).mono ?_; rintro e w2 ⟨_, rfl, ⟨AG, rfl, hG⟩, hb⟩; have BF := Aside0.mk (blk_below (heap_alloc_new w1 (.cells #[.string (wordB k), .slice AF (foK k).length (foK k).length, (.pointer none), .slice none 0 0, .pointer none, .bool (liK k)] 48)) hb); have hb1 := (bel1 w1 (.cells #[.string (wordB k), .slice AF (foK k).length (foK k).length, (.pointer none), .slice none 0 0, .pointer none, .bool (liK k)] 48)).trans (hb.mono (by rw [size_alloc]; omega)); have n1_ := Aside0.mk (blk_below BE.out hb1); have n2_ := Aside0.mk (blk_below BO.out hb1); have n4_ := Aside0.mk (fun j o hj => by obtain ⟨ad, e1, e2, e3⟩ := FF.out j o hj; exact ⟨ad, e1, e2, pw_cell_below hb1 e3⟩ : ∀ (j o : Nat), (foK k)[j]? = some o → ∃ ad, AF = some ad ∧ ad.block ≠ w.heap.size ∧ w2.cell? (ad.add j) = some (.pointer (some ⟨w.heap.size, o, none⟩))); have n5_ := Aside0.mk (HZ.out.trans (hb1.mono HZ.out.size)); clear BE BO FF HZ hb1; have BE := n1_; have BO := n2_; have FF := n4_; have HZ := n5_; have GG := Aside0.mk hG; clear n1_ n2_ n4_ n5_ hG hb))
  have BG := Aside0.mk (heap_alloc_new w2 (.cells #[.string (wordB k), .slice AG (foK k).length (foK k).length, (.pointer none), .slice none 0 0, .pointer none, .bool (liK k)] 48))
  have hb2 := bel1 w2 (.cells #[.string (wordB k), .slice AG (foK k).length (foK k).length, (.pointer none), .slice none 0 0, .pointer none, .bool (liK k)] 48)
  have n1_ := Aside0.mk (blk_below BE.out hb2)
  have n2_ := Aside0.mk (blk_below BO.out hb2)
  have n6_ := Aside0.mk (blk_below BF.out hb2)
  have n5_ := Aside0.mk (HZ.out.trans (hb2.mono HZ.out.size))
  have n3_ := Aside0.mk (fun j o hj => by obtain ⟨ad, e1, e2, e3⟩ := FF.out j o hj; exact ⟨ad, e1, e2, pw_cell_below hb2 e3⟩ : ∀ (j o : Nat), (foK k)[j]? = some o → ∃ ad, AF = some ad ∧ ad.block ≠ w.heap.size ∧ (w2.alloc (.cells #[.string (wordB k), .slice AG (foK k).length (foK k).length, (.pointer none), .slice none 0 0, .pointer none, .bool (liK k)] 48)).cell? (ad.add j) = some (.pointer (some ⟨w.heap.size, o, none⟩)))
  have n4_ := Aside0.mk (fun j o hj => by obtain ⟨ad, e1, e2, e3⟩ := GG.out j o hj; exact ⟨ad, e1, e2, pw_cell_below hb2 e3⟩ : ∀ (j o : Nat), (foK k)[j]? = some o → ∃ ad, AG = some ad ∧ ad.block ≠ w.heap.size + 1 ∧ (w2.alloc (.cells #[.string (wordB k), .slice AG (foK k).length (foK k).length, (.pointer none), .slice none 0 0, .pointer none, .bool (liK k)] 48)).cell? (ad.add j) = some (.pointer (some ⟨w.heap.size + 1, o, none⟩)))
  clear hb2 FF GG BE BO BF HZ
  generalize w1.heap.size = g4 at n6_ ⊢
  generalize w2.heap.size = g6 at BG ⊢
  generalize w2.alloc (.cells #[.string (wordB k), .slice AG (foK k).length (foK k).length, (.pointer none), .slice none 0 0, .pointer none, .bool (liK k)] 48) = wz at *
  have BE := n1_
  have BO := n2_
  have BF := n6_
  have HZ := n5_
  have FF := n3_
  have GG := n4_
  clear n1_ n2_ n3_ n4_ n5_ n6_
  have NE4 := Aside0.mk (show g4 ≠ w.heap.size + 1 by rintro rfl; have h1 := BF.out.symm.trans BO.out; injection h1 with h1; injection h1 with _ h2 _; cases h2)
  have NE6 := Aside0.mk (show g6 ≠ w.heap.size + 1 by rintro rfl; have h1 := BG.out.symm.trans BO.out; injection h1 with h1; injection h1 with _ h2 _; cases h2)
  have NAF : Aside0 (∀ ad, AF = some ad → ∀ j v, wz.cell? (ad.add j) = some (.pointer v) → ad.block ≠ w.heap.size + 1) := ⟨fun ad h j v hv => by have h1 := ev_noptr BO.out hv; rwa [add_block] at h1⟩
  have y1 : wz.cell? ⟨g4, 1, none⟩ = some (.slice AF (foK k).length (foK k).length) := (blk_cell BF.out 1).trans rfl
  go_wp2_with (fail)
  clear y1
  go_loopw [26] (fun i wr => ∃ a : Nat, i = .int .i64 a ∧ a ≤ (foK k).length ∧ Aside0 (∀ o ∈ (foK k).take a, 0 ≤ getK x o) ∧ Aside0 (wr.heap[w.heap.size + 1]? = some (.cells (evC (onlyA x ((foK k).take a)) (.slice none 0 0)) 24 (0, 0))) ∧ Aside0 (Fr wz.heap.size (w.heap.size + 1) wz wr)) (fun i _ => (foK k).length - (intOf i).toNat)
  case atStart => exact ⟨0, rfl, by omega, ⟨fun o ho => by simp at ho⟩, BO, ⟨⟨rfl, rfl, rfl, Nat.le_refl _, fun _ _ _ => rfl⟩⟩⟩
  case round =>
    clear BO
    obtain ⟨a, rfl, ha, HP, BO, FR⟩ := hrel
    have y1 : wr.cell? ⟨g4, 1, none⟩ = some (.slice AF (foK k).length (foK k).length) := (blk_cell (FR.out.blk BF.out (Nat.le_refl _) NE4.out) 1).trans rfl
    by_cases hlt : a < (foK k).length
    · obtain ⟨o, ho⟩ : ∃ o, (foK k)[a]? = some o := ⟨_, List.getElem?_eq_getElem hlt⟩
      obtain ⟨ad1, hA1, hn1, hc1⟩ := FF.out a o ho
      obtain ⟨ad2, hA2, hn2, hc2⟩ := GG.out a o ho
      have hb1 := NAF.out ad1 hA1 a _ hc1
      subst hA1 hA2
      have HO6 := Aside0.mk (fo_le k o (List.mem_of_getElem? ho))
      have HOM := Aside0.mk (List.mem_of_getElem? ho)
      have x1 : wr.cell? (ad1.add a) = some (.pointer (some ⟨w.heap.size, o, none⟩)) := FR.out.cell hc1 (Nat.le_refl _) (by rw [add_block]; exact hb1)
      have x2 : wr.cell? (ad2.add a) = some (.pointer (some ⟨w.heap.size + 1, o, none⟩)) := FR.out.cell hc2 (Nat.le_refl _) (by rw [add_block]; exact hn2)
      have BE2 := Aside0.mk (FR.out.blk BE.out (Nat.le_refl _) (Nat.ne_of_lt (Nat.lt_succ_self _)))
      obtain ⟨n, hn⟩ : ∃ n, n = getK x o := ⟨_, rfl⟩
      have HNN := Aside0.mk hn
      have e1 : wr.cell? ⟨w.heap.size, o, none⟩ = some (.int .i64 n) := (blk_cell BE2.out o).trans (by rw [hn]; exact ev_get x _ o HO6.out.1 HO6.out.2)
      have o1 : wr.cell? ⟨w.heap.size + 1, o, none⟩ = some (.int .i64 (getK (onlyA x ((foK k).take a)) o)) := (blk_cell BO.out o).trans (ev_get _ _ o HO6.out.1 HO6.out.2)
      have q1 : wr.frozen? ⟨w.heap.size + 1, o, none⟩ = false := Lib.frozen_of_heap BO.out o
      have z1 : wr.cell? ⟨g6, 1, none⟩ = some (.slice (some ad2) (foK k).length (foK k).length) := (blk_cell (FR.out.blk BG.out (Nat.le_refl _) NE6.out) 1).trans rfl
      have HT : Aside0 ((foK k).take (a + 1) = (foK k).take a ++ [o]) := ⟨by rw [List.take_add_one, ho]; rfl⟩
      clear hc1 hc2 hn1 hn2 hb1 ho hn
      by_cases hneg : n < 0
      · have d1 : decide (n < 0) = true := decide_eq_true hneg
        have HRS := Aside0.mk (ok_neg k o x HOM.out (HNN.out ▸ hneg))
        clear hneg
        go_wp2_with (fail)
        go_ret
        exact ⟨ret_int HRS.out.symm, HZ.out.trans (FR.out.below HZ.out.size (Nat.le_succ _))⟩
      · have d1 : decide (n < 0) = false := decide_eq_false hneg
        have HNG := Aside0.mk hneg
        clear hneg
        go_wp2_with (fail)
        go_region
        go_wp2_with (fail)
        go_roundw
        case rel => exact ⟨a + 1, by go_num, by omega, ⟨fun p hp => by rw [HT.out] at hp; rcases List.mem_append.1 hp with hp | hp; exact HP.out p hp; rw [List.mem_singleton] at hp; rw [hp, ← HNN.out]; have := HNG.out; omega⟩, ⟨by rw [HT.out, onlyA_snoc, ← HNN.out]; exact blk_put (w := wr) BO.out o _ (setK_cells _ _ n o HO6.out.1 HO6.out.2)⟩, ⟨by have h := fr_set (w1 := wr) FR.out o (.int .i64 n); exact ⟨h.os, h.tape, h.output, h.size, h.block⟩⟩⟩
        case measure => simp [intOf]; omega
    · obtain rfl : a = (foK k).length := by omega
      rw [List.take_length] at HP BO
      have HZ2 := Aside0.mk (HZ.out.trans (FR.out.below HZ.out.size (Nat.le_succ _)))
      have BE2 := Aside0.mk (FR.out.blk BE.out (Nat.le_refl _) (Nat.ne_of_lt (Nat.lt_succ_self _)))
      have BF2 := Aside0.mk (FR.out.blk BF.out (Nat.le_refl _) NE4.out)
      have BG2 := Aside0.mk (FR.out.blk BG.out (Nat.le_refl _) NE6.out)
      have y2 : wr.cell? ⟨g4, 2, none⟩ = some (.pointer none) := (blk_cell BF2.out 2).trans rfl
      have y3 : wr.cell? ⟨g4, 3, none⟩ = some (.slice none 0 0) := (blk_cell BF2.out 3).trans rfl
      have y5 : wr.cell? ⟨g4, 5, none⟩ = some (.bool (liK k)) := (blk_cell BF2.out 5).trans rfl
      clear y1 hlt ha
      have HON : Aside0 (onlyK k x = ⟨(onlyA x (foK k)).f0, (onlyA x (foK k)).f1, (onlyA x (foK k)).f2, (onlyA x (foK k)).f3, (onlyA x (foK k)).f4, (onlyA x (foK k)).f5, (onlyA x (foK k)).f6, if liK k then x.f7 else []⟩) := ⟨by unfold onlyK; rw [show atK k = foK k by unfold atK; rw [HCL.out]; simp]⟩
      cases hli : liK k with
      | false =>
        rw [hli] at y5 HON
        simp only [Bool.false_eq_true, if_false] at HON
        clear hli BE BF BG
        have BE := BE2
        clear BE2 BF2 BG2
        by_cases hs : sameP x (onlyK k x)
        · have SM := Aside0.mk hs
          rw [HON.out] at SM
          cases hri : risesB x.f7 with
          | true =>
            have RI := Aside0.mk hri
            have HRS : Aside0 (checkK k x = 0) := ⟨check_is k (by rw [HCL.out]; decide) h1 h2 x HKK.out HP.out true ⟨fun _ => ⟨hs, hri⟩, fun _ => rfl⟩⟩
            clear hs hri
            go_wp2_with (first
              | (refine wpList_load_row rfl 24 (.tmp 1) rfl w.heap.size rfl 24 (evC x (.slice A x.f7.length cap)) (0, 0) _ BE.out Tryd.underlying24 rfl (by kernel_rfl) ?_)
              | (refine wpList_load_row rfl 24 (.tmp 3) rfl (w.heap.size + 1) rfl 24 (evC (onlyA x (foK k)) (.slice none 0 0)) (0, 0) _ BO.out Tryd.underlying24 rfl (by kernel_rfl) ?_)
              | (go_at_call 24; refine (same_yes x (⟨(onlyA x (foK k)).f0, (onlyA x (foK k)).f1, (onlyA x (foK k)).f2, (onlyA x (foK k)).f3, (onlyA x (foK k)).f4, (onlyA x (foK k)).f5, (onlyA x (foK k)).f6, []⟩ : S24) A none cap 0 _ (Kd.C_below HR.out HZ2.out) HCAP.out (Kd.C_nil _ _) (Nat.le_refl _) SM.out).mono ?_; rintro e wq ⟨rfl, hb⟩; have x7 : wq.cell? ⟨w.heap.size, 7, none⟩ = some (.slice A x.f7.length cap) := cell_keep BE.out hb rfl; have HB2 := Aside0.mk (below_then HZ2.out HZ2.out.size hb); clear HZ2 hb; have HZ2 := HB2; clear HB2)
              | (go_at_call 25; refine (rises_any x.f7 A cap _ (Kd.C_below HR.out HZ2.out) HCAP.out _ RI.out).mono ?_; rintro e wr ⟨rfl, hd⟩; have HB2 := Aside0.mk (below_then HZ2.out HZ2.out.size hd.below); clear HZ2 hd; have HZ2 := HB2; clear HB2))
            go_ret
            exact ⟨ret_int HRS.out.symm, HZ2.out⟩
          | false =>
            have RI := Aside0.mk hri
            have HRS : Aside0 (checkK k x = 180) := ⟨check_is k (by rw [HCL.out]; decide) h1 h2 x HKK.out HP.out false ⟨fun h => (Bool.noConfusion h), fun h => by rw [hri] at h; exact h.2⟩⟩
            clear hs hri
            go_wp2_with (first
              | (refine wpList_load_row rfl 24 (.tmp 1) rfl w.heap.size rfl 24 (evC x (.slice A x.f7.length cap)) (0, 0) _ BE.out Tryd.underlying24 rfl (by kernel_rfl) ?_)
              | (refine wpList_load_row rfl 24 (.tmp 3) rfl (w.heap.size + 1) rfl 24 (evC (onlyA x (foK k)) (.slice none 0 0)) (0, 0) _ BO.out Tryd.underlying24 rfl (by kernel_rfl) ?_)
              | (go_at_call 24; refine (same_yes x (⟨(onlyA x (foK k)).f0, (onlyA x (foK k)).f1, (onlyA x (foK k)).f2, (onlyA x (foK k)).f3, (onlyA x (foK k)).f4, (onlyA x (foK k)).f5, (onlyA x (foK k)).f6, []⟩ : S24) A none cap 0 _ (Kd.C_below HR.out HZ2.out) HCAP.out (Kd.C_nil _ _) (Nat.le_refl _) SM.out).mono ?_; rintro e wq ⟨rfl, hb⟩; have x7 : wq.cell? ⟨w.heap.size, 7, none⟩ = some (.slice A x.f7.length cap) := cell_keep BE.out hb rfl; have HB2 := Aside0.mk (below_then HZ2.out HZ2.out.size hb); clear HZ2 hb; have HZ2 := HB2; clear HB2)
              | (go_at_call 25; refine (rises_any x.f7 A cap _ (Kd.C_below HR.out HZ2.out) HCAP.out _ RI.out).mono ?_; rintro e wr ⟨rfl, hd⟩; have HB2 := Aside0.mk (below_then HZ2.out HZ2.out.size hd.below); clear HZ2 hd; have HZ2 := HB2; clear HB2))
            go_ret
            exact ⟨ret_int HRS.out.symm, HZ2.out⟩
        · have SM := Aside0.mk hs
          rw [HON.out] at SM
          have HRS : Aside0 (checkK k x = 180) := ⟨check_is k (by rw [HCL.out]; decide) h1 h2 x HKK.out HP.out false ⟨fun h => (Bool.noConfusion h), fun h => absurd h.1 hs⟩⟩
          clear hs
          go_wp2_with (first
            | (refine wpList_load_row rfl 24 (.tmp 1) rfl w.heap.size rfl 24 (evC x (.slice A x.f7.length cap)) (0, 0) _ BE.out Tryd.underlying24 rfl (by kernel_rfl) ?_)
            | (refine wpList_load_row rfl 24 (.tmp 3) rfl (w.heap.size + 1) rfl 24 (evC (onlyA x (foK k)) (.slice none 0 0)) (0, 0) _ BO.out Tryd.underlying24 rfl (by kernel_rfl) ?_)
            | (go_at_call 24; refine (same_no x (⟨(onlyA x (foK k)).f0, (onlyA x (foK k)).f1, (onlyA x (foK k)).f2, (onlyA x (foK k)).f3, (onlyA x (foK k)).f4, (onlyA x (foK k)).f5, (onlyA x (foK k)).f6, []⟩ : S24) A none cap 0 _ (Kd.C_below HR.out HZ2.out) HCAP.out (Kd.C_nil _ _) (Nat.le_refl _) SM.out).mono ?_; rintro e wq ⟨rfl, hb⟩; have x7 : wq.cell? ⟨w.heap.size, 7, none⟩ = some (.slice A x.f7.length cap) := cell_keep BE.out hb rfl; have HB2 := Aside0.mk (below_then HZ2.out HZ2.out.size hb); clear HZ2 hb; have HZ2 := HB2; clear HB2)
            | (go_at_call 25; refine (rises_any x.f7 A cap _ (Kd.C_below HR.out HZ2.out) HCAP.out _ RI.out).mono ?_; rintro e wr ⟨rfl, hd⟩; have HB2 := Aside0.mk (below_then HZ2.out HZ2.out.size hd.below); clear HZ2 hd; have HZ2 := HB2; clear HB2))
          go_ret
          exact ⟨ret_int HRS.out.symm, HZ2.out⟩
      | true =>
        rw [hli] at y5 HON
        simp only [if_true] at HON
        have e7 : wr.cell? ⟨w.heap.size, 7, none⟩ = some (.slice A x.f7.length cap) := (blk_cell BE2.out 7).trans rfl
        have o7 : wr.cell? ⟨w.heap.size + 1, 7, none⟩ = some (.slice none 0 0) := (blk_cell BO.out 7).trans rfl
        have q7 : wr.frozen? ⟨w.heap.size + 1, 7, none⟩ = false := Lib.frozen_of_heap BO.out 7
        go_upto_region 21 with (fail)
        have BE3 : Aside0 ((wr.setCell ⟨w.heap.size + 1, 7, none⟩ (.slice A x.f7.length cap)).heap[w.heap.size]? = some (.cells (evC x (.slice A x.f7.length cap)) 24 (0, 0))) := ⟨hp_setne wr _ _ _ 7 _ (by omega) BE2.out⟩
        have BO3 : Aside0 ((wr.setCell ⟨w.heap.size + 1, 7, none⟩ (.slice A x.f7.length cap)).heap[w.heap.size + 1]? = some (.cells (evC (onlyA x (foK k)) (.slice A x.f7.length cap)) 24 (0, 0))) := ⟨blk_put (w := wr) BO.out 7 _ rfl⟩
        have HZ3 : Aside0 (Below w.heap.size w (wr.setCell ⟨w.heap.size + 1, 7, none⟩ (.slice A x.f7.length cap))) := ⟨Below.setCell HZ2.out (p := ⟨w.heap.size + 1, 7, none⟩) (Nat.le_succ _) _⟩
        clear hli BE BF BG BE2 BF2 BG2 BO HZ2 y2 y3 y5 e7 o7 q7
        generalize wr.setCell ⟨w.heap.size + 1, 7, none⟩ (.slice A x.f7.length cap) = wu at BE3 BO3 HZ3 ⊢
        have BE := BE3
        have BO := BO3
        have HZ2 := HZ3
        clear BE3 BO3 HZ3
        by_cases hs : sameP x (onlyK k x)
        · have SM := Aside0.mk hs
          rw [HON.out] at SM
          cases hri : risesB x.f7 with
          | true =>
            have RI := Aside0.mk hri
            have HRS : Aside0 (checkK k x = 0) := ⟨check_is k (by rw [HCL.out]; decide) h1 h2 x HKK.out HP.out true ⟨fun _ => ⟨hs, hri⟩, fun _ => rfl⟩⟩
            clear hs hri
            go_wp2_with (first
              | (refine wpList_load_row rfl 24 (.tmp 1) rfl w.heap.size rfl 24 (evC x (.slice A x.f7.length cap)) (0, 0) _ BE.out Tryd.underlying24 rfl (by kernel_rfl) ?_)
              | (refine wpList_load_row rfl 24 (.tmp 3) rfl (w.heap.size + 1) rfl 24 (evC (onlyA x (foK k)) (.slice A x.f7.length cap)) (0, 0) _ BO.out Tryd.underlying24 rfl (by kernel_rfl) ?_)
              | (go_at_call 24; refine (same_yes x (⟨(onlyA x (foK k)).f0, (onlyA x (foK k)).f1, (onlyA x (foK k)).f2, (onlyA x (foK k)).f3, (onlyA x (foK k)).f4, (onlyA x (foK k)).f5, (onlyA x (foK k)).f6, x.f7⟩ : S24) A A cap cap _ (Kd.C_below HR.out HZ2.out) HCAP.out (Kd.C_below HR.out HZ2.out) HCAP.out SM.out).mono ?_; rintro e wq ⟨rfl, hb⟩; have x7 : wq.cell? ⟨w.heap.size, 7, none⟩ = some (.slice A x.f7.length cap) := cell_keep BE.out hb rfl; have HB2 := Aside0.mk (below_then HZ2.out HZ2.out.size hb); clear HZ2 hb; have HZ2 := HB2; clear HB2)
              | (go_at_call 25; refine (rises_any x.f7 A cap _ (Kd.C_below HR.out HZ2.out) HCAP.out _ RI.out).mono ?_; rintro e wr ⟨rfl, hd⟩; have HB2 := Aside0.mk (below_then HZ2.out HZ2.out.size hd.below); clear HZ2 hd; have HZ2 := HB2; clear HB2))
            go_ret
            exact ⟨ret_int HRS.out.symm, HZ2.out⟩
          | false =>
            have RI := Aside0.mk hri
            have HRS : Aside0 (checkK k x = 180) := ⟨check_is k (by rw [HCL.out]; decide) h1 h2 x HKK.out HP.out false ⟨fun h => (Bool.noConfusion h), fun h => by rw [hri] at h; exact h.2⟩⟩
            clear hs hri
            go_wp2_with (first
              | (refine wpList_load_row rfl 24 (.tmp 1) rfl w.heap.size rfl 24 (evC x (.slice A x.f7.length cap)) (0, 0) _ BE.out Tryd.underlying24 rfl (by kernel_rfl) ?_)
              | (refine wpList_load_row rfl 24 (.tmp 3) rfl (w.heap.size + 1) rfl 24 (evC (onlyA x (foK k)) (.slice A x.f7.length cap)) (0, 0) _ BO.out Tryd.underlying24 rfl (by kernel_rfl) ?_)
              | (go_at_call 24; refine (same_yes x (⟨(onlyA x (foK k)).f0, (onlyA x (foK k)).f1, (onlyA x (foK k)).f2, (onlyA x (foK k)).f3, (onlyA x (foK k)).f4, (onlyA x (foK k)).f5, (onlyA x (foK k)).f6, x.f7⟩ : S24) A A cap cap _ (Kd.C_below HR.out HZ2.out) HCAP.out (Kd.C_below HR.out HZ2.out) HCAP.out SM.out).mono ?_; rintro e wq ⟨rfl, hb⟩; have x7 : wq.cell? ⟨w.heap.size, 7, none⟩ = some (.slice A x.f7.length cap) := cell_keep BE.out hb rfl; have HB2 := Aside0.mk (below_then HZ2.out HZ2.out.size hb); clear HZ2 hb; have HZ2 := HB2; clear HB2)
              | (go_at_call 25; refine (rises_any x.f7 A cap _ (Kd.C_below HR.out HZ2.out) HCAP.out _ RI.out).mono ?_; rintro e wr ⟨rfl, hd⟩; have HB2 := Aside0.mk (below_then HZ2.out HZ2.out.size hd.below); clear HZ2 hd; have HZ2 := HB2; clear HB2))
            go_ret
            exact ⟨ret_int HRS.out.symm, HZ2.out⟩
        · have SM := Aside0.mk hs
          rw [HON.out] at SM
          have HRS : Aside0 (checkK k x = 180) := ⟨check_is k (by rw [HCL.out]; decide) h1 h2 x HKK.out HP.out false ⟨fun h => (Bool.noConfusion h), fun h => absurd h.1 hs⟩⟩
          clear hs
          go_wp2_with (first
            | (refine wpList_load_row rfl 24 (.tmp 1) rfl w.heap.size rfl 24 (evC x (.slice A x.f7.length cap)) (0, 0) _ BE.out Tryd.underlying24 rfl (by kernel_rfl) ?_)
            | (refine wpList_load_row rfl 24 (.tmp 3) rfl (w.heap.size + 1) rfl 24 (evC (onlyA x (foK k)) (.slice A x.f7.length cap)) (0, 0) _ BO.out Tryd.underlying24 rfl (by kernel_rfl) ?_)
            | (go_at_call 24; refine (same_no x (⟨(onlyA x (foK k)).f0, (onlyA x (foK k)).f1, (onlyA x (foK k)).f2, (onlyA x (foK k)).f3, (onlyA x (foK k)).f4, (onlyA x (foK k)).f5, (onlyA x (foK k)).f6, x.f7⟩ : S24) A A cap cap _ (Kd.C_below HR.out HZ2.out) HCAP.out (Kd.C_below HR.out HZ2.out) HCAP.out SM.out).mono ?_; rintro e wq ⟨rfl, hb⟩; have x7 : wq.cell? ⟨w.heap.size, 7, none⟩ = some (.slice A x.f7.length cap) := cell_keep BE.out hb rfl; have HB2 := Aside0.mk (below_then HZ2.out HZ2.out.size hb); clear HZ2 hb; have HZ2 := HB2; clear HB2)
            | (go_at_call 25; refine (rises_any x.f7 A cap _ (Kd.C_below HR.out HZ2.out) HCAP.out _ RI.out).mono ?_; rintro e wr ⟨rfl, hd⟩; have HB2 := Aside0.mk (below_then HZ2.out HZ2.out.size hd.below); clear HZ2 hd; have HZ2 := HB2; clear HB2))
          go_ret
          exact ⟨ret_int HRS.out.symm, HZ2.out⟩
set_option maxRecDepth 100000 in
set_option maxHeartbeats 8000000 in
theorem check_c1 (k : Nat) (h1 : 1 ≤ k) (h2 : k ≤ 11) (hc : clsK k = 1) (x : S24) (hk : x.f0 = k) (A : Option Addr) (cap : Nat) (w : World) (hr : Kd.C (Kd.int .i64) w A x.f7.length x.f7) (hcap : x.f7.length ≤ cap) :
    Calls Tryd.prog 10 #[evV x A cap] w fun e w' => e = .returned (.int .i64 (checkK k x)) ∧ Below w.heap.size w w' := by
  have hu24 := Tryd.underlying24
  have hu48 := Tryd.underlying48
  have hu46 := Tryd.underlying46
  have HR := Aside0.mk hr
  have HCAP := Aside0.mk hcap
  have HCL := Aside0.mk hc
  have HKK := Aside0.mk hk
  have hfl := fo_len k
  have T1 := Aside0.mk True.intro
  clear hr hcap hc hk
  go_enter Tryd.func10, Tryd.ntmps10
  go_upto_region 6 with (first
    | (go_at_call 23; clear T1; refine (form_c1 k h1 h2 HCL.out _ x (.slice A x.f7.length cap) _ HKK.out (hp_lt _ _ _ _ (heap_alloc_new _ _))).mono ?_; rintro e w1 ⟨_, rfl, ⟨AF, rfl, hF⟩, hb⟩; have BE := Aside0.mk (blk_below (hp_lt _ _ _ _ (heap_alloc_new w (.cells (evC x (.slice A x.f7.length cap)) 24))) hb); have BO := Aside0.mk (blk_below (hp_new _ (.cells (evC ⟨x.f0, 0, 0, 0, 0, 0, 0, []⟩ (.slice none 0 0)) 24) (w.heap.size + 1) (by rw [size_alloc])) hb); have FF := Aside0.mk hF; have HZ := Aside0.mk ((bel2 w (.cells (evC x (.slice A x.f7.length cap)) 24) (.cells (evC ⟨x.f0, 0, 0, 0, 0, 0, 0, []⟩ (.slice none 0 0)) 24)).trans (hb.mono (by rw [size_alloc, size_alloc]; omega))); clear hF hb)
    | (go_at_call 23; refine (form_c1 k h1 h2 HCL.out _ (⟨x.f0, 0, 0, 0, 0, 0, 0, []⟩ : S24) (.slice none 0 0) _ HKK.out (hp_lt _ _ _ _ BO.out)).mono ?_; rintro e w2 ⟨_, rfl, ⟨AG, rfl, hG⟩, hb⟩; have BF := Aside0.mk (blk_below (heap_alloc_new w1 (.cells #[.string (wordB k), .slice AF (foK k).length (foK k).length, (.pointer (some ⟨w.heap.size, 6, none⟩)), .slice none 0 0, .pointer none, .bool false] 48)) hb); have hb1 := (bel1 w1 (.cells #[.string (wordB k), .slice AF (foK k).length (foK k).length, (.pointer (some ⟨w.heap.size, 6, none⟩)), .slice none 0 0, .pointer none, .bool false] 48)).trans (hb.mono (by rw [size_alloc]; omega)); have n1_ := Aside0.mk (blk_below BE.out hb1); have n2_ := Aside0.mk (blk_below BO.out hb1); have n4_ := Aside0.mk (fun j o hj => by obtain ⟨ad, e1, e2, e3⟩ := FF.out j o hj; exact ⟨ad, e1, e2, pw_cell_below hb1 e3⟩ : ∀ (j o : Nat), (foK k)[j]? = some o → ∃ ad, AF = some ad ∧ ad.block ≠ w.heap.size ∧ w2.cell? (ad.add j) = some (.pointer (some ⟨w.heap.size, o, none⟩))); have n5_ := Aside0.mk (HZ.out.trans (hb1.mono HZ.out.size)); clear BE BO FF HZ hb1; have BE := n1_; have BO := n2_; have FF := n4_; have HZ := n5_; have GG := Aside0.mk hG; clear n1_ n2_ n4_ n5_ hG hb))
  have BG := Aside0.mk (heap_alloc_new w2 (.cells #[.string (wordB k), .slice AG (foK k).length (foK k).length, (.pointer (some ⟨w.heap.size + 1, 6, none⟩)), .slice none 0 0, .pointer none, .bool false] 48))
  have hb2 := bel1 w2 (.cells #[.string (wordB k), .slice AG (foK k).length (foK k).length, (.pointer (some ⟨w.heap.size + 1, 6, none⟩)), .slice none 0 0, .pointer none, .bool false] 48)
  have n1_ := Aside0.mk (blk_below BE.out hb2)
  have n2_ := Aside0.mk (blk_below BO.out hb2)
  have n6_ := Aside0.mk (blk_below BF.out hb2)
  have n5_ := Aside0.mk (HZ.out.trans (hb2.mono HZ.out.size))
  have n3_ := Aside0.mk (fun j o hj => by obtain ⟨ad, e1, e2, e3⟩ := FF.out j o hj; exact ⟨ad, e1, e2, pw_cell_below hb2 e3⟩ : ∀ (j o : Nat), (foK k)[j]? = some o → ∃ ad, AF = some ad ∧ ad.block ≠ w.heap.size ∧ (w2.alloc (.cells #[.string (wordB k), .slice AG (foK k).length (foK k).length, (.pointer (some ⟨w.heap.size + 1, 6, none⟩)), .slice none 0 0, .pointer none, .bool false] 48)).cell? (ad.add j) = some (.pointer (some ⟨w.heap.size, o, none⟩)))
  have n4_ := Aside0.mk (fun j o hj => by obtain ⟨ad, e1, e2, e3⟩ := GG.out j o hj; exact ⟨ad, e1, e2, pw_cell_below hb2 e3⟩ : ∀ (j o : Nat), (foK k)[j]? = some o → ∃ ad, AG = some ad ∧ ad.block ≠ w.heap.size + 1 ∧ (w2.alloc (.cells #[.string (wordB k), .slice AG (foK k).length (foK k).length, (.pointer (some ⟨w.heap.size + 1, 6, none⟩)), .slice none 0 0, .pointer none, .bool false] 48)).cell? (ad.add j) = some (.pointer (some ⟨w.heap.size + 1, o, none⟩)))
  clear hb2 FF GG BE BO BF HZ
  generalize w1.heap.size = g4 at n6_ ⊢
  generalize w2.heap.size = g6 at BG ⊢
  generalize w2.alloc (.cells #[.string (wordB k), .slice AG (foK k).length (foK k).length, (.pointer (some ⟨w.heap.size + 1, 6, none⟩)), .slice none 0 0, .pointer none, .bool false] 48) = wz at *
  have BE := n1_
  have BO := n2_
  have BF := n6_
  have HZ := n5_
  have FF := n3_
  have GG := n4_
  clear n1_ n2_ n3_ n4_ n5_ n6_
  have NE4 := Aside0.mk (show g4 ≠ w.heap.size + 1 by rintro rfl; have h1 := BF.out.symm.trans BO.out; injection h1 with h1; injection h1 with _ h2 _; cases h2)
  have NE6 := Aside0.mk (show g6 ≠ w.heap.size + 1 by rintro rfl; have h1 := BG.out.symm.trans BO.out; injection h1 with h1; injection h1 with _ h2 _; cases h2)
  have NAF : Aside0 (∀ ad, AF = some ad → ∀ j v, wz.cell? (ad.add j) = some (.pointer v) → ad.block ≠ w.heap.size + 1) := ⟨fun ad h j v hv => by have h1 := ev_noptr BO.out hv; rwa [add_block] at h1⟩
  have y1 : wz.cell? ⟨g4, 1, none⟩ = some (.slice AF (foK k).length (foK k).length) := (blk_cell BF.out 1).trans rfl
  go_wp2_with (fail)
  clear y1
  go_loopw [26] (fun i wr => ∃ a : Nat, i = .int .i64 a ∧ a ≤ (foK k).length ∧ Aside0 (∀ o ∈ (foK k).take a, 0 ≤ getK x o) ∧ Aside0 (wr.heap[w.heap.size + 1]? = some (.cells (evC (onlyA x ((foK k).take a)) (.slice none 0 0)) 24 (0, 0))) ∧ Aside0 (Fr wz.heap.size (w.heap.size + 1) wz wr)) (fun i _ => (foK k).length - (intOf i).toNat)
  case atStart => exact ⟨0, rfl, by omega, ⟨fun o ho => by simp at ho⟩, BO, ⟨⟨rfl, rfl, rfl, Nat.le_refl _, fun _ _ _ => rfl⟩⟩⟩
  case round =>
    clear BO
    obtain ⟨a, rfl, ha, HP, BO, FR⟩ := hrel
    have y1 : wr.cell? ⟨g4, 1, none⟩ = some (.slice AF (foK k).length (foK k).length) := (blk_cell (FR.out.blk BF.out (Nat.le_refl _) NE4.out) 1).trans rfl
    by_cases hlt : a < (foK k).length
    · obtain ⟨o, ho⟩ : ∃ o, (foK k)[a]? = some o := ⟨_, List.getElem?_eq_getElem hlt⟩
      obtain ⟨ad1, hA1, hn1, hc1⟩ := FF.out a o ho
      obtain ⟨ad2, hA2, hn2, hc2⟩ := GG.out a o ho
      have hb1 := NAF.out ad1 hA1 a _ hc1
      subst hA1 hA2
      have HO6 := Aside0.mk (fo_le k o (List.mem_of_getElem? ho))
      have HOM := Aside0.mk (List.mem_of_getElem? ho)
      have x1 : wr.cell? (ad1.add a) = some (.pointer (some ⟨w.heap.size, o, none⟩)) := FR.out.cell hc1 (Nat.le_refl _) (by rw [add_block]; exact hb1)
      have x2 : wr.cell? (ad2.add a) = some (.pointer (some ⟨w.heap.size + 1, o, none⟩)) := FR.out.cell hc2 (Nat.le_refl _) (by rw [add_block]; exact hn2)
      have BE2 := Aside0.mk (FR.out.blk BE.out (Nat.le_refl _) (Nat.ne_of_lt (Nat.lt_succ_self _)))
      obtain ⟨n, hn⟩ : ∃ n, n = getK x o := ⟨_, rfl⟩
      have HNN := Aside0.mk hn
      have e1 : wr.cell? ⟨w.heap.size, o, none⟩ = some (.int .i64 n) := (blk_cell BE2.out o).trans (by rw [hn]; exact ev_get x _ o HO6.out.1 HO6.out.2)
      have o1 : wr.cell? ⟨w.heap.size + 1, o, none⟩ = some (.int .i64 (getK (onlyA x ((foK k).take a)) o)) := (blk_cell BO.out o).trans (ev_get _ _ o HO6.out.1 HO6.out.2)
      have q1 : wr.frozen? ⟨w.heap.size + 1, o, none⟩ = false := Lib.frozen_of_heap BO.out o
      have z1 : wr.cell? ⟨g6, 1, none⟩ = some (.slice (some ad2) (foK k).length (foK k).length) := (blk_cell (FR.out.blk BG.out (Nat.le_refl _) NE6.out) 1).trans rfl
      have HT : Aside0 ((foK k).take (a + 1) = (foK k).take a ++ [o]) := ⟨by rw [List.take_add_one, ho]; rfl⟩
      clear hc1 hc2 hn1 hn2 hb1 ho hn
      by_cases hneg : n < 0
      · have d1 : decide (n < 0) = true := decide_eq_true hneg
        have HRS := Aside0.mk (ok_neg k o x HOM.out (HNN.out ▸ hneg))
        clear hneg
        go_wp2_with (fail)
        go_ret
        exact ⟨ret_int HRS.out.symm, HZ.out.trans (FR.out.below HZ.out.size (Nat.le_succ _))⟩
      · have d1 : decide (n < 0) = false := decide_eq_false hneg
        have HNG := Aside0.mk hneg
        clear hneg
        go_wp2_with (fail)
        go_region
        go_wp2_with (fail)
        go_roundw
        case rel => exact ⟨a + 1, by go_num, by omega, ⟨fun p hp => by rw [HT.out] at hp; rcases List.mem_append.1 hp with hp | hp; exact HP.out p hp; rw [List.mem_singleton] at hp; rw [hp, ← HNN.out]; have := HNG.out; omega⟩, ⟨by rw [HT.out, onlyA_snoc, ← HNN.out]; exact blk_put (w := wr) BO.out o _ (setK_cells _ _ n o HO6.out.1 HO6.out.2)⟩, ⟨by have h := fr_set (w1 := wr) FR.out o (.int .i64 n); exact ⟨h.os, h.tape, h.output, h.size, h.block⟩⟩⟩
        case measure => simp [intOf]; omega
    · obtain rfl : a = (foK k).length := by omega
      rw [List.take_length] at HP BO
      have HZ2 := Aside0.mk (HZ.out.trans (FR.out.below HZ.out.size (Nat.le_succ _)))
      have BE2 := Aside0.mk (FR.out.blk BE.out (Nat.le_refl _) (Nat.ne_of_lt (Nat.lt_succ_self _)))
      have BF2 := Aside0.mk (FR.out.blk BF.out (Nat.le_refl _) NE4.out)
      have BG2 := Aside0.mk (FR.out.blk BG.out (Nat.le_refl _) NE6.out)
      have y2 : wr.cell? ⟨g4, 2, none⟩ = some (.pointer (some ⟨w.heap.size, 6, none⟩)) := (blk_cell BF2.out 2).trans rfl
      have y3 : wr.cell? ⟨g4, 3, none⟩ = some (.slice none 0 0) := (blk_cell BF2.out 3).trans rfl
      have y5 : wr.cell? ⟨g4, 5, none⟩ = some (.bool false) := (blk_cell BF2.out 5).trans rfl
      clear y1 hlt ha
      have HON : Aside0 (onlyK k x = ⟨(onlyA x (atK k)).f0, (onlyA x (atK k)).f1, (onlyA x (atK k)).f2, (onlyA x (atK k)).f3, (onlyA x (atK k)).f4, (onlyA x (atK k)).f5, (onlyA x (atK k)).f6, []⟩) := ⟨by unfold onlyK; rw [show liK k = false from li_c1 k HCL.out]; simp⟩
      have HAT : Aside0 (onlyA x (atK k) = setK (onlyA x (foK k)) x.f6 6) := ⟨by rw [show atK k = foK k ++ [6] by unfold atK; rw [HCL.out]; simp, onlyA_snoc]; rfl⟩
      have z2 : wr.cell? ⟨g6, 2, none⟩ = some (.pointer (some ⟨w.heap.size + 1, 6, none⟩)) := (blk_cell BG2.out 2).trans rfl
      have e6 : wr.cell? ⟨w.heap.size, 6, none⟩ = some (.int .i64 x.f6) := (blk_cell BE2.out 6).trans rfl
      have o6 : wr.cell? ⟨w.heap.size + 1, 6, none⟩ = some (.int .i64 (onlyA x (foK k)).f6) := (blk_cell BO.out 6).trans rfl
      have q6 : wr.frozen? ⟨w.heap.size + 1, 6, none⟩ = false := Lib.frozen_of_heap BO.out 6
      go_wp2_with (fail)
      go_region
      have BE3 : Aside0 ((wr.setCell ⟨w.heap.size + 1, 6, none⟩ (.int .i64 x.f6)).drew.heap[w.heap.size]? = some (.cells (evC x (.slice A x.f7.length cap)) 24 (0, 0))) := ⟨hp_setne wr _ _ _ 6 _ (by omega) BE2.out⟩
      have BO3 : Aside0 ((wr.setCell ⟨w.heap.size + 1, 6, none⟩ (.int .i64 x.f6)).drew.heap[w.heap.size + 1]? = some (.cells (evC (onlyA x (atK k)) (.slice none 0 0)) 24 (0, 0))) := ⟨by rw [HAT.out]; exact blk_put (w := wr) BO.out 6 _ (setK_cells _ _ x.f6 6 (by omega) (by omega))⟩
      have BF3 : Aside0 ((wr.setCell ⟨w.heap.size + 1, 6, none⟩ (.int .i64 x.f6)).drew.heap[g4]? = some (.cells #[.string (wordB k), .slice AF (foK k).length (foK k).length, (.pointer (some ⟨w.heap.size, 6, none⟩)), .slice none 0 0, .pointer none, .bool false] 48 (0, 0))) := ⟨hp_setne wr _ _ _ 6 _ NE4.out BF2.out⟩
      have HZ3 : Aside0 (Below w.heap.size w (wr.setCell ⟨w.heap.size + 1, 6, none⟩ (.int .i64 x.f6)).drew) := ⟨below_drew (Below.setCell HZ2.out (p := ⟨w.heap.size + 1, 6, none⟩) (Nat.le_succ _) _)⟩
      clear BE BF BG BE2 BF2 BG2 BO HZ2 y2 y3 y5 z2 e6 o6 q6
      generalize (wr.setCell ⟨w.heap.size + 1, 6, none⟩ (.int .i64 x.f6)).drew = wu at BE3 BO3 BF3 HZ3 ⊢
      have BE := BE3
      have BO := BO3
      have HZ2 := HZ3
      have y3 : wu.cell? ⟨g4, 3, none⟩ = some (.slice none 0 0) := (blk_cell BF3.out 3).trans rfl
      have y5 : wu.cell? ⟨g4, 5, none⟩ = some (.bool false) := (blk_cell BF3.out 5).trans rfl
      clear BE3 BO3 HZ3 BF3
      by_cases hs : sameP x (onlyK k x)
      · have SM := Aside0.mk hs
        rw [HON.out] at SM
        cases hri : risesB x.f7 with
        | true =>
          have RI := Aside0.mk hri
          have HRS : Aside0 (checkK k x = 0) := ⟨check_is k (by rw [HCL.out]; decide) h1 h2 x HKK.out HP.out true ⟨fun _ => ⟨hs, hri⟩, fun _ => rfl⟩⟩
          clear hs hri
          go_wp2_with (first
            | (refine wpList_load_row rfl 24 (.tmp 1) rfl w.heap.size rfl 24 (evC x (.slice A x.f7.length cap)) (0, 0) _ BE.out Tryd.underlying24 rfl (by kernel_rfl) ?_)
            | (refine wpList_load_row rfl 24 (.tmp 3) rfl (w.heap.size + 1) rfl 24 (evC (onlyA x (atK k)) (.slice none 0 0)) (0, 0) _ BO.out Tryd.underlying24 rfl (by kernel_rfl) ?_)
            | (go_at_call 24; refine (same_yes x (⟨(onlyA x (atK k)).f0, (onlyA x (atK k)).f1, (onlyA x (atK k)).f2, (onlyA x (atK k)).f3, (onlyA x (atK k)).f4, (onlyA x (atK k)).f5, (onlyA x (atK k)).f6, []⟩ : S24) A none cap 0 _ (Kd.C_below HR.out HZ2.out) HCAP.out (Kd.C_nil _ _) (Nat.le_refl _) SM.out).mono ?_; rintro e wq ⟨rfl, hb⟩; have x7 : wq.cell? ⟨w.heap.size, 7, none⟩ = some (.slice A x.f7.length cap) := cell_keep BE.out hb rfl; have HB2 := Aside0.mk (below_then HZ2.out HZ2.out.size hb); clear HZ2 hb; have HZ2 := HB2; clear HB2)
            | (go_at_call 25; refine (rises_any x.f7 A cap _ (Kd.C_below HR.out HZ2.out) HCAP.out _ RI.out).mono ?_; rintro e wr ⟨rfl, hd⟩; have HB2 := Aside0.mk (below_then HZ2.out HZ2.out.size hd.below); clear HZ2 hd; have HZ2 := HB2; clear HB2))
          go_ret
          exact ⟨ret_int HRS.out.symm, HZ2.out⟩
        | false =>
          have RI := Aside0.mk hri
          have HRS : Aside0 (checkK k x = 180) := ⟨check_is k (by rw [HCL.out]; decide) h1 h2 x HKK.out HP.out false ⟨fun h => (Bool.noConfusion h), fun h => by rw [hri] at h; exact h.2⟩⟩
          clear hs hri
          go_wp2_with (first
            | (refine wpList_load_row rfl 24 (.tmp 1) rfl w.heap.size rfl 24 (evC x (.slice A x.f7.length cap)) (0, 0) _ BE.out Tryd.underlying24 rfl (by kernel_rfl) ?_)
            | (refine wpList_load_row rfl 24 (.tmp 3) rfl (w.heap.size + 1) rfl 24 (evC (onlyA x (atK k)) (.slice none 0 0)) (0, 0) _ BO.out Tryd.underlying24 rfl (by kernel_rfl) ?_)
            | (go_at_call 24; refine (same_yes x (⟨(onlyA x (atK k)).f0, (onlyA x (atK k)).f1, (onlyA x (atK k)).f2, (onlyA x (atK k)).f3, (onlyA x (atK k)).f4, (onlyA x (atK k)).f5, (onlyA x (atK k)).f6, []⟩ : S24) A none cap 0 _ (Kd.C_below HR.out HZ2.out) HCAP.out (Kd.C_nil _ _) (Nat.le_refl _) SM.out).mono ?_; rintro e wq ⟨rfl, hb⟩; have x7 : wq.cell? ⟨w.heap.size, 7, none⟩ = some (.slice A x.f7.length cap) := cell_keep BE.out hb rfl; have HB2 := Aside0.mk (below_then HZ2.out HZ2.out.size hb); clear HZ2 hb; have HZ2 := HB2; clear HB2)
            | (go_at_call 25; refine (rises_any x.f7 A cap _ (Kd.C_below HR.out HZ2.out) HCAP.out _ RI.out).mono ?_; rintro e wr ⟨rfl, hd⟩; have HB2 := Aside0.mk (below_then HZ2.out HZ2.out.size hd.below); clear HZ2 hd; have HZ2 := HB2; clear HB2))
          go_ret
          exact ⟨ret_int HRS.out.symm, HZ2.out⟩
      · have SM := Aside0.mk hs
        rw [HON.out] at SM
        have HRS : Aside0 (checkK k x = 180) := ⟨check_is k (by rw [HCL.out]; decide) h1 h2 x HKK.out HP.out false ⟨fun h => (Bool.noConfusion h), fun h => absurd h.1 hs⟩⟩
        clear hs
        go_wp2_with (first
          | (refine wpList_load_row rfl 24 (.tmp 1) rfl w.heap.size rfl 24 (evC x (.slice A x.f7.length cap)) (0, 0) _ BE.out Tryd.underlying24 rfl (by kernel_rfl) ?_)
          | (refine wpList_load_row rfl 24 (.tmp 3) rfl (w.heap.size + 1) rfl 24 (evC (onlyA x (atK k)) (.slice none 0 0)) (0, 0) _ BO.out Tryd.underlying24 rfl (by kernel_rfl) ?_)
          | (go_at_call 24; refine (same_no x (⟨(onlyA x (atK k)).f0, (onlyA x (atK k)).f1, (onlyA x (atK k)).f2, (onlyA x (atK k)).f3, (onlyA x (atK k)).f4, (onlyA x (atK k)).f5, (onlyA x (atK k)).f6, []⟩ : S24) A none cap 0 _ (Kd.C_below HR.out HZ2.out) HCAP.out (Kd.C_nil _ _) (Nat.le_refl _) SM.out).mono ?_; rintro e wq ⟨rfl, hb⟩; have x7 : wq.cell? ⟨w.heap.size, 7, none⟩ = some (.slice A x.f7.length cap) := cell_keep BE.out hb rfl; have HB2 := Aside0.mk (below_then HZ2.out HZ2.out.size hb); clear HZ2 hb; have HZ2 := HB2; clear HB2)
          | (go_at_call 25; refine (rises_any x.f7 A cap _ (Kd.C_below HR.out HZ2.out) HCAP.out _ RI.out).mono ?_; rintro e wr ⟨rfl, hd⟩; have HB2 := Aside0.mk (below_then HZ2.out HZ2.out.size hd.below); clear HZ2 hd; have HZ2 := HB2; clear HB2))
        go_ret
        exact ⟨ret_int HRS.out.symm, HZ2.out⟩
end Go.Proofs.YtiapfhlipoomaaaDoor.Given
