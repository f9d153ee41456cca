/- What makes the iterators; whether a list's numbers rise; the arms and waiters as they lie; what a loop keeps. No condition. -/
import Derived.Test.YtokbonceeglciaaGivenB
namespace Go.Proofs.Ytokbonceeglciaa.Given
open Go.RowKit Go.Shelf Go.Proofs.YtokbonceeglciaaW.PrintWords Go.Proofs.Ytokbonceeglciaa.Print

theorem senders_any (c0 : Int) (w : World) : Calls Try.prog 24 #[.int .i64 c0] w fun e w' => e = .returned (.func (.func 31) #[] #[.pointer (some ⟨w.heap.size, 0, none⟩)]) ∧ w' = w.alloc (.cells #[.int .i64 c0] 3) := by
  go_enter Try.func24, Try.ntmps24
  go_wp2
  go_ret
  exact ⟨rfl, rfl⟩
theorem receivers_any (c0 : Int) (w : World) : Calls Try.prog 27 #[.int .i64 c0] w fun e w' => e = .returned (.func (.func 33) #[] #[.pointer (some ⟨w.heap.size, 0, none⟩)]) ∧ w' = w.alloc (.cells #[.int .i64 c0] 3) := by
  go_enter Try.func27, Try.ntmps27
  go_wp2
  go_ret
  exact ⟨rfl, rfl⟩
theorem that23_any (A : Option Addr) (n c k : Nat) (p : Option Addr) (w : World) : Calls Try.prog 23 #[.slice A n c, .func (.func k) #[] #[.pointer p]] w fun e w' => e = .returned (.func (.func 30) #[] #[.pointer (some ⟨w.heap.size, 0, none⟩), .pointer (some ⟨w.heap.size + 1, 0, none⟩)]) ∧ w' = (w.alloc (.cells #[.slice A n c] 36)).alloc (.cells #[.func (.func k) #[] #[.pointer p]] 54) := by
  go_enter Try.func23, Try.ntmps23
  go_wp2
  go_ret
  exact ⟨rfl, rfl⟩
theorem that25_any (A : Option Addr) (n c k : Nat) (p : Option Addr) (w : World) : Calls Try.prog 25 #[.slice A n c, .func (.func k) #[] #[.pointer p]] w fun e w' => e = .returned (.func (.func 32) #[] #[.pointer (some ⟨w.heap.size, 0, none⟩), .pointer (some ⟨w.heap.size + 1, 0, none⟩)]) ∧ w' = (w.alloc (.cells #[.slice A n c] 22)).alloc (.cells #[.func (.func k) #[] #[.pointer p]] 59) := by
  go_enter Try.func25, Try.ntmps25
  go_wp2
  go_ret
  exact ⟨rfl, rfl⟩

/-! ### right -/
def rightGo : Int → List S38 → Bool
  | _, [] => true
  | last, x :: r => if x.f0 ≤ last then false else rightGo x.f0 r
def rightOf (l : List S38) : Bool := rightGo (-1) l
set_option maxHeartbeats 1000000 in
theorem right_any (A : Option Addr) (c : Nat) (l : List S38) (w : World) (hr : Kd.C k38 w A l.length l) (_hc : l.length ≤ c) :
    Calls Try.prog 22 #[.slice A l.length c] w fun e w' => e = .returned (.bool (rightOf l)) ∧ Below w.heap.size w w' := by
  have hm := hr.2.1
  have HR := Aside0.mk hr
  clear hr
  go_enter Try.func22, Try.ntmps22
  go_wp2
  go_loopw [3, 8] (fun v i wr => ∃ (k : Nat) (last : Int), i = .int .i64 k ∧ v = .int .i64 last ∧ k ≤ l.length ∧ Aside0 (rightOf l = rightGo last (l.drop k)) ∧ Aside0 (Below w.heap.size w wr)) (fun _ i _ => l.length - (intOf i).toNat)
  case atStart => exact ⟨0, -1, rfl, rfl, by omega, ⟨rfl⟩, ⟨Below.refl _ _⟩⟩
  case round =>
    obtain ⟨k, last, rfl, rfl, hk, HE, HB⟩ := hrel
    by_cases hlt : k < l.length
    · obtain ⟨ad, A1, c1, rfl, x0, x1, hl1, _⟩ := at_T38 HR.out (k : Int) (by omega) (by omega)
      have hel : rd_T38 l k = l[k] := by simp [rd_T38, List.getElem?_eq_getElem hlt]
      have hd : l.drop k = l[k] :: l.drop (k + 1) := List.drop_eq_getElem_cons hlt
      have he := HE.out
      rw [hd, rightGo] at he
      rw [hel, Int.toNat_natCast] at x0 x1
      obtain ⟨t, ht⟩ : ∃ t, t = l[k].f0 := ⟨_, rfl⟩
      rw [← ht] at x0 he
      replace x0 := pw_cell_below HB.out x0
      replace x1 := pw_cell_below HB.out x1
      by_cases hle : t ≤ last
      · have hle' : decide (t ≤ last) = true := decide_eq_true hle
        rw [if_pos hle] at he
        have HE' := Aside0.mk he
        clear he hel hd ht hle
        go_wp2
        go_ret
        exact ⟨by rw [HE'.out]; rfl, below_alloc HB.out _⟩
      · have hle' : decide (t ≤ last) = false := decide_eq_false hle
        rw [if_neg hle] at he
        have HE' := Aside0.mk he
        clear he hel hd ht hle
        go_wp2
        go_roundw
        case rel => exact ⟨k + 1, t, by go_num, rfl, by omega, HE', ⟨below_alloc HB.out _⟩⟩
        case measure => simp [intOf]; omega
    · obtain rfl : k = l.length := by omega
      have he := HE.out
      rw [List.drop_length, rightGo] at he
      have HE' := Aside0.mk he
      clear he
      go_wp2
      go_ret
      exact ⟨by rw [HE'.out]; rfl, HB.out⟩

/-! ### as they lie -/
theorem rows_of {α β : Type} (n : Nat) (xs : List α) (hn : xs.length = n) (P : Nat → α → β → Prop) (h : ∀ j x, xs[j]? = some x → ∃ z, P j x z) : ∃ zs : List β, zs.length = n ∧ ∀ (j : Nat) (x : α) (z : β), xs[j]? = some x → zs[j]? = some z → P j x z := by
  subst hn
  induction xs generalizing P with
  | nil => exact ⟨[], rfl, by simp⟩
  | cons x xs ih =>
    obtain ⟨z, hz⟩ := h 0 x rfl
    obtain ⟨zs, hl, hzs⟩ := ih (fun j => P (j + 1)) (fun j x hx => h (j + 1) x hx)
    refine ⟨z :: zs, by simp [hl], ?_⟩
    intro j y u hy hu
    cases j with
    | zero => simp at hy hu; subst hy hu; exact hz
    | succ j => exact hzs j y u (by simpa using hy) (by simpa using hu)
theorem rawA {w : World} {A : Option Addr} {xs : List S43} (h : Kd.C k43 w A xs.length xs) : ∃ zs : List RA, zs.length = xs.length ∧ (∀ (j : Nat) (x : S43) (z : RA), xs[j]? = some x → zs[j]? = some z → z.ch = x.f0 ∧ z.sd = x.f1) ∧ RowA w.heap.size w A zs := by
  obtain ⟨zs, hl, hz⟩ := rows_of xs.length xs rfl (fun j (x : S43) (z : RA) => z.ch = x.f0 ∧ z.sd = x.f1 ∧ ∃ ad, A = some ad ∧ (ad.add (j * 5)).block < w.heap.size ∧
      w.cell? (ad.add (j * 5)) = some (.int .i64 z.ch) ∧ w.cell? ⟨(ad.add (j * 5)).block, (ad.add (j * 5)).off + 1, none⟩ = some (.bool z.sd) ∧ w.cell? ⟨(ad.add (j * 5)).block, (ad.add (j * 5)).off + 2, none⟩ = some (.int .i64 z.a) ∧
      w.cell? ⟨(ad.add (j * 5)).block, (ad.add (j * 5)).off + 3, none⟩ = some (.int .i64 z.b) ∧ w.cell? ⟨(ad.add (j * 5)).block, (ad.add (j * 5)).off + 4, none⟩ = some (.slice z.A z.n z.c)) (by
    intro j x hx
    obtain ⟨hlt, rfl⟩ := List.getElem?_eq_some_iff.1 hx
    obtain ⟨ad, A4, c4, e, x0, x1, x2, x3, x4, _⟩ := at_T43 h (j : Int) (by omega) (by omega)
    have hel : rd_T43 xs j = xs[j] := by simp [rd_T43, List.getElem?_eq_getElem hlt]
    rw [hel, Int.toNat_natCast] at x0 x1 x2 x3 x4
    exact ⟨⟨xs[j].f0, xs[j].f1, xs[j].f2.f0, xs[j].f2.f1, A4, xs[j].f2.f2.length, c4⟩, rfl, rfl, ad, e, World.block_lt_of_cell? w _ x0, x0, x1, x2, x3, x4⟩)
  refine ⟨zs, hl, fun j x z hx hz' => ⟨(hz j x z hx hz').1, (hz j x z hx hz').2.1⟩, fun j z hj => ?_⟩
  have hlt := (List.getElem?_eq_some_iff.1 hj).1
  exact (hz j xs[j] z (List.getElem?_eq_getElem (by omega)) hj).2.2
theorem rawW {w : World} {A : Option Addr} {xs : List S38} (h : Kd.C k38 w A xs.length xs) : ∃ zs : List RW, zs.length = xs.length ∧ (∀ (j : Nat) (x : S38) (z : RW), xs[j]? = some x → zs[j]? = some z → z.id = x.f0 ∧ z.n = x.f1.length ∧ Kd.C k43 w z.A x.f1.length x.f1) ∧ RowW w.heap.size w A zs := by
  obtain ⟨zs, hl, hz⟩ := rows_of xs.length xs rfl (fun j (x : S38) (z : RW) => z.id = x.f0 ∧ z.n = x.f1.length ∧ Kd.C k43 w z.A x.f1.length x.f1 ∧ ∃ ad, A = some ad ∧ (ad.add (j * 2)).block < w.heap.size ∧
      w.cell? (ad.add (j * 2)) = some (.int .i64 z.id) ∧ w.cell? ⟨(ad.add (j * 2)).block, (ad.add (j * 2)).off + 1, none⟩ = some (.slice z.A z.n z.c)) (by
    intro j x hx
    obtain ⟨hlt, rfl⟩ := List.getElem?_eq_some_iff.1 hx
    obtain ⟨ad, A1, c1, e, x0, x1, _, g1⟩ := at_T38 h (j : Int) (by omega) (by omega)
    have hel : rd_T38 xs j = xs[j] := by simp [rd_T38, List.getElem?_eq_getElem hlt]
    rw [hel, Int.toNat_natCast] at x0 x1
    rw [hel] at g1
    exact ⟨⟨xs[j].f0, A1, xs[j].f1.length, c1⟩, rfl, rfl, g1, ad, e, World.block_lt_of_cell? w _ x0, x0, x1⟩)
  refine ⟨zs, hl, fun j x z hx hz' => ⟨(hz j x z hx hz').1, (hz j x z hx hz').2.1, (hz j x z hx hz').2.2.1⟩, fun j z hj => ?_⟩
  have hlt := (List.getElem?_eq_some_iff.1 hj).1
  exact (hz j xs[j] z (List.getElem?_eq_getElem (by omega)) hj).2.2.2

/-! ### what a loop keeps -/
def OutAt (n₀ Bo : Nat) (W : World) (xs : List S47) : Prop := ∃ v, Boxed W Bo 33 v ∧ Kd.R k47 47 W n₀ (fun _ => True) v xs
theorem OutAt.grown {n₀ Bo : Nat} {W W' : World} {xs : List S47} {row : Option Nat} (h : OutAt n₀ Bo W xs) (hg : W.grownBy W' row) (hr : ∀ r, row = some r → ∀ cs t fr, W.heap[r]? = some (.cells cs t fr) → t ≠ 33 ∧ t ≠ 47) : OutAt n₀ Bo W' xs := by
  obtain ⟨v, hb, hR⟩ := h
  refine ⟨v, hb.kept hg (fun e => ?_), ?_⟩
  · exact (hr Bo e.symm _ _ _ hb).1 rfl
  · refine Kd.R_mono (Kd.R_step (Kd.R_bound hR) (fun k hk hlt => ?_)) (fun _ _ => trivial)
    obtain ⟨_, _, _, q, hq, cs, hc⟩ := hk
    refine hg.block k hlt (fun e => ?_)
    have := (hr k e.symm _ _ _ hc).2
    have h47 : (47 :: k47.E) = [47] := rfl
    rw [h47] at hq
    simp at hq
    exact this hq
theorem notcells {W : World} {r : Nat} {o : Obj} (h : W.heap[r]? = some o) (ho : o.isCells = false) : ∀ cs t fr, W.heap[r]? = some (.cells cs t fr) → t ≠ 33 ∧ t ≠ 47 := by
  intro cs t fr hr
  rw [h] at hr
  cases hr
  simp [Obj.isCells] at ho
theorem OutAt.alloc {n₀ Bo : Nat} {W : World} {xs : List S47} (h : OutAt n₀ Bo W xs) (o : Obj) : OutAt n₀ Bo (W.alloc o) xs := h.grown (World.grownBy_alloc W o none) (fun _ e => by cases e)
theorem OutAt.putObj {n₀ Bo : Nat} {W : World} {xs : List S47} (h : OutAt n₀ Bo W xs) {l : Nat} {o : Obj} (o' : Obj) (hl : W.heap[l]? = some o) (ho : o.isCells = false) : OutAt n₀ Bo (W.putObj l o') xs :=
  h.grown (grownBy_putObj' W l o') (fun r e => by cases e; exact notcells hl ho)
theorem own_out {β : Type} (B n₀ Bo : Nat) (F : β → List S47) : OwnFrom B (fun s W => OutAt n₀ Bo W (F s)) := fun s X Y row hs hg hr =>
  hs.grown hg (fun r e => by obtain ⟨_, o, ho, hc⟩ := hr r e; exact notcells ho hc)
theorem own_Kp {β : Type} {B n₀ : Nat} {W0 : World} (hn : n₀ ≤ W0.heap.size) (hB : n₀ ≤ B) : OwnFrom B (fun (_ : β) W => Kp n₀ W0 W) := fun s X Y row hs hg hr =>
  ⟨ownFrom_below (β := β) hn hB s X Y row hs.1 hg hr, hs.2.trans (KT.grown hg (fun r e cs t fr h => by obtain ⟨_, o, ho, hc⟩ := hr r e; rw [ho] at h; cases h; simp [Obj.isCells] at hc))⟩
/-- The marks that the loops over iterators have left. -/
def Marks (n₀ : Nat) (ds : List Deferred) (W : World) : Prop := (ds.Pairwise (· ≠ ·)) ∧ ∀ d ∈ ds, ∃ D, d = { target := .collected D, args := #[] } ∧ n₀ ≤ D ∧ W.heap[D]? = some (.deferred (some []))
theorem Marks.grown {n₀ : Nat} {ds : List Deferred} {W W' : World} {row : Option Nat} (h : Marks n₀ ds W) (hg : W.grownBy W' row) (hr : ∀ r, row = some r → W.heap[r]? ≠ some (.deferred (some []))) : Marks n₀ ds W' :=
  ⟨h.1, fun d hd => by obtain ⟨D, e, hn, hD⟩ := h.2 d hd; exact ⟨D, e, hn, (hg.block D (Array.getElem?_eq_some_iff.1 hD).1 (fun e => hr D e.symm hD)).trans hD⟩⟩
theorem Marks.keeps {n₀ : Nat} {ds : List Deferred} {W W' : World} (h : Marks n₀ ds W) (hk : KeepsOthers W W') : Marks n₀ ds W' :=
  ⟨h.1, fun d hd => by obtain ⟨D, e, hn, hD⟩ := h.2 d hd; exact ⟨D, e, hn, hk.same D _ hD rfl⟩⟩
theorem own_marks {β : Type} {n₀ B : Nat} {ds : List Deferred} (hB : ∀ d ∈ ds, ∀ D, d = { target := .collected D, args := #[] } → D < B) : OwnFrom B (fun (_ : β) W => Marks n₀ ds W) := fun s X Y row hs hg hr =>
  ⟨hs.1, fun d hd => by
    obtain ⟨D, e, hn, hD⟩ := hs.2 d hd
    refine ⟨D, e, hn, (hg.block D (Array.getElem?_eq_some_iff.1 hD).1 (fun e' => ?_)).trans hD⟩
    have := (hr D e'.symm).1
    have := hB d hd D e
    omega⟩
theorem Marks.lt {n₀ : Nat} {ds : List Deferred} {W : World} (h : Marks n₀ ds W) : ∀ d ∈ ds, ∀ D, d = { target := .collected D, args := #[] } → D < W.heap.size := fun d hd D e => by
  obtain ⟨D', e', _, hD⟩ := h.2 d hd
  rw [e] at e'
  injection e' with e'
  injection e' with e'
  subst e'
  exact (Array.getElem?_eq_some_iff.1 hD).1
/-- All marks are taken up at the return. -/
theorem leaves_marks {fn : Func} {tmps : Array Value} {R : Ending → World → Prop} {n n₀ : Nat} {v : Value} (hv : ∀ W, (results fn tmps).run Try.prog W = .ok v W) :
    ∀ (ds : List Deferred) (W : World), Marks n₀ ds W → (∀ W', Kp n₀ W W' → (∀ (k : Nat) (cs : Array Value) (t : TypeId) (fr : Nat × Nat), W.heap[k]? = some (.cells cs t fr) → W'.heap[k]? = some (.cells cs t fr)) → R (.returned v) W') → LeavesInM Fence.wide n Try.prog fn tmps R ds .returning W
  | [], W, _, h => ⟨v, hv W, h W ⟨Below.refl _ _, KT.refl _⟩ (fun _ _ _ _ hk => hk)⟩
  | d :: ds, W, hm, h => by
    obtain ⟨D, e, hn, hD⟩ := hm.2 d List.mem_cons_self
    have hc : ∀ (k : Nat) (cs : Array Value) (t : TypeId) (fr : Nat × Nat), W.heap[k]? = some (.cells cs t fr) → (W.putObj D (.deferred none)).heap[k]? = some (.cells cs t fr) := by
      intro k cs t fr hk
      rw [World.putObj_heap_other (fun e => by subst e; rw [hD] at hk; cases hk)]
      exact hk
    have hm' : Marks n₀ ds (W.putObj D (.deferred none)) := by
      have hp := List.pairwise_cons.1 hm.1
      refine ⟨hp.2, fun d' hd' => ?_⟩
      obtain ⟨D', e', hn', hD'⟩ := hm.2 d' (List.mem_cons_of_mem _ hd')
      refine ⟨D', e', hn', ?_⟩
      rw [World.putObj_heap_other (fun ee => hp.1 d' hd' (by rw [e, e', ee]))]
      exact hD'
    refine ⟨by simp, .inl ⟨D, _, by rw [e], run_takeDeferred hD, ?_⟩⟩
    refine leaves_marks hv ds _ hm' (fun W' hK hcs => h W' ?_ (fun k cs t fr hk => hcs k cs t fr (hc k cs t fr hk)))
    have hKp : Kp n₀ W (W.putObj D (.deferred none)) := ⟨⟨rfl, rfl, rfl, by simp [World.putObj], fun k hk => World.putObj_heap_other (by omega)⟩, KT.putObj _ hD rfl⟩
    exact hKp.t hK

end Go.Proofs.Ytokbonceeglciaa.Given
