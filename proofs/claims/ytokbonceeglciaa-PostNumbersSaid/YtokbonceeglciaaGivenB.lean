/- The iterator over a process's arms (post.that at arms), for each of the two choices. No condition. -/
import Derived.Test.YtokbonceeglciaaGivenA
namespace Go.Proofs.Ytokbonceeglciaa.Given
open Go.RowKit Go.Shelf Go.Proofs.YtokbonceeglciaaW.PrintWords Go.Proofs.Ytokbonceeglciaa.Print
attribute [local go_sem] Oper.semAt_some

def RowA (n₀ : Nat) (W : World) (A : Option Addr) (zs : List RA) : Prop := ∀ (j : Nat) (z : RA), zs[j]? = some z → ∃ ad, A = some ad ∧ (ad.add (j * 5)).block < n₀ ∧
  W.cell? (ad.add (j * 5)) = some (.int .i64 z.ch) ∧ W.cell? ⟨(ad.add (j * 5)).block, (ad.add (j * 5)).off + 1, none⟩ = some (.bool z.sd) ∧ W.cell? ⟨(ad.add (j * 5)).block, (ad.add (j * 5)).off + 2, none⟩ = some (.int .i64 z.a) ∧
  W.cell? ⟨(ad.add (j * 5)).block, (ad.add (j * 5)).off + 3, none⟩ = some (.int .i64 z.b) ∧ W.cell? ⟨(ad.add (j * 5)).block, (ad.add (j * 5)).off + 4, none⟩ = some (.slice z.A z.n z.c)
theorem RowA.below {n₀ : Nat} {W W' : World} {A : Option Addr} {zs : List RA} (h : RowA n₀ W A zs) (hb : Below n₀ W W') : RowA n₀ W' A zs := by
  intro j z hj
  obtain ⟨ad, e, hl, h0, h1, h2, h3, h4⟩ := h j z hj
  refine ⟨ad, e, hl, (hb.cell (p := ad.add (j * 5)) hl).trans h0, ?_, ?_, ?_, ?_⟩
  · exact (hb.cell (p := ⟨(ad.add (j * 5)).block, (ad.add (j * 5)).off + 1, none⟩) hl).trans h1
  · exact (hb.cell (p := ⟨(ad.add (j * 5)).block, (ad.add (j * 5)).off + 2, none⟩) hl).trans h2
  · exact (hb.cell (p := ⟨(ad.add (j * 5)).block, (ad.add (j * 5)).off + 3, none⟩) hl).trans h3
  · exact (hb.cell (p := ⟨(ad.add (j * 5)).block, (ad.add (j * 5)).off + 4, none⟩) hl).trans h4
/-- Those of a list that are chosen, with their places. -/
def selR {α : Type} (p : α → Bool) : Nat → List α → List (Nat × α)
  | _, [] => []
  | i, a :: r => if p a = true then (i, a) :: selR p (i + 1) r else selR p (i + 1) r
theorem selR_append {α : Type} (p : α → Bool) : ∀ (i : Nat) (x y : List α), selR p i (x ++ y) = selR p i x ++ selR p (i + x.length) y
  | _, [], y => by simp [selR]
  | i, a :: x, y => by
    have := selR_append p (i + 1) x y
    simp only [List.cons_append, selR, this, List.length_cons]
    rw [show i + 1 + x.length = i + (x.length + 1) by omega]
    split <;> simp
theorem selR_len {α : Type} (p : α → Bool) : ∀ (i : Nat) (x : List α), (selR p i x).length ≤ x.length
  | _, [] => by simp [selR]
  | i, a :: x => by
    have := selR_len p (i + 1) x
    simp only [selR]
    split <;> simp <;> omega
theorem selR_yes {α : Type} (p : α → Bool) (zs : List α) (k : Nat) (z : α) (h : zs[k]? = some z) (hp : p z = true) : selR p 0 (zs.take (k + 1)) = selR p 0 (zs.take k) ++ [(k, z)] := by
  obtain ⟨hl, rfl⟩ := List.getElem?_eq_some_iff.1 h
  rw [List.take_succ_eq_append_getElem hl, selR_append]
  simp [selR, hp]
  omega
theorem selR_no {α : Type} (p : α → Bool) (zs : List α) (k : Nat) (z : α) (h : zs[k]? = some z) (hp : p z = false) : selR p 0 (zs.take (k + 1)) = selR p 0 (zs.take k) := by
  obtain ⟨hl, rfl⟩ := List.getElem?_eq_some_iff.1 h
  rw [List.take_succ_eq_append_getElem hl, selR_append]
  simp [selR, hp]
theorem selR_pre {α : Type} (p : α → Bool) (zs : List α) (k : Nat) : selR p 0 (zs.take k) <+: selR p 0 zs := by
  refine ⟨selR p (0 + (zs.take k).length) (zs.drop k), ?_⟩
  rw [← selR_append, List.take_append_drop]
def Kp (n₀ : Nat) (A B : World) : Prop := Below n₀ A B ∧ KT A B
theorem Kp.t {n₀ : Nat} {A B C : World} (h : Kp n₀ A B) (k : Kp n₀ B C) : Kp n₀ A C := ⟨h.1.trans k.1, h.2.trans k.2⟩
theorem Kp.alloc {n₀ : Nat} {A B : World} (h : Kp n₀ A B) (hn : n₀ ≤ B.heap.size) (o : Obj) : Kp n₀ A (B.alloc o) := ⟨h.1.alloc hn o, h.2.trans (KT.alloc B o)⟩
theorem Kp.b {n₀ : Nat} {w : World} (hn : n₀ ≤ w.heap.size) (W : World) (l : Nat) (o o' : Obj) (hl : w.heap.size ≤ l) (h : W.heap[l]? = some o) (hc : o.isCells = false) (hw : o.isWalk = false) : Kp n₀ W (W.putObj l o') :=
  ⟨belowK_b hn W l o o' hl h hc hw, KT.putObj o' h hc⟩

theorem heap_keep {w w' : World} {o : Obj} {g : Nat} (h : w.heap[g]? = some o) (hb : Below w.heap.size w w') : w'.heap[g]? = some o := (hb.block g (Array.getElem?_eq_some_iff.1 h).1).trans h
set_option maxRecDepth 100000 in
set_option maxHeartbeats 2000000 in
theorem armsS_in (n l Bs Bh Bn n₀ : Nat) (A : Option Addr) (c : Nat) (zs : List RA) (c0 : Int) (hm : zs.length ≤ 9223372036854775807) (J Jx : List (Nat × RA) → World → Prop)
    (hJ : ∀ pre W o, J pre W → J pre (W.alloc o))
    (hY : ∀ pre x W, J pre W → pre.length < zs.length → YieldAt Fence.wide (n - 1) Try.prog l #[.int .i64 (x.1 : Nat), encA x.2] W fun e W' =>
      (e = .returned (.bool true) ∧ J (pre ++ [x]) W' ∧ Kp n₀ W W') ∨ (e = .returned (.bool false) ∧ Jx (pre ++ [x]) W'))
    (W : World) (hs : Boxed W Bs 36 (.slice A zs.length c)) (hh : Boxed W Bh 54 (.func (.func 31) #[] #[.pointer (some ⟨Bn, 0, none⟩)])) (hb : Boxed W Bn 3 (.int .i64 c0)) (hr : RowA n₀ W A zs) (h0 : J [] W) (hn₀ : n₀ ≤ W.heap.size) :
    CallsIn Fence.wide n Try.prog 30 #[.func (.yield l) #[] #[], .pointer (some ⟨Bs, 0, none⟩), .pointer (some ⟨Bh, 0, none⟩)] W fun e W' => (∃ v, e = .returned v) ∧
      ((∃ ys, ys = selR (sends c0) 0 zs ∧ J ys W') ∨ (∃ pre, pre <+: selR (sends c0) 0 zs ∧ Jx pre W')) := by
  refine callsIn_of_wp Try.func30 rfl trivial ?_ rfl
  simp only [Try.ntmps30, List.size_toArray, List.length_cons, List.length_nil, Nat.reduceAdd, Nat.reduceSub, Array.replicate_succ, Array.replicate_zero, List.push_toArray, List.append_toArray, List.nil_append, List.cons_append]
  have cs := hs.cell
  gi_wp2
  gi_loopw [8] (fun i wr => ∃ k : Nat, k ≤ zs.length ∧ i = .int .i64 k ∧ J (selR (sends c0) 0 (zs.take k)) wr ∧ Kp n₀ W wr) (fun i _ => zs.length - (intOf i).toNat)
  case atStart => exact ⟨0, Nat.zero_le _, rfl, h0, Below.refl _ _, KT.refl _⟩
  case round =>
    obtain ⟨k, hk, rfl, hJs, hK⟩ := hrel
    by_cases hlt : k < zs.length
    · obtain ⟨z, hz⟩ : ∃ z, zs[k]? = some z := ⟨zs[k], List.getElem?_eq_getElem hlt⟩
      obtain ⟨ad, rfl, _, x0, x1, x2, x3, x4⟩ := (hr.below hK.1) k z hz
      have ch := (hK.2.boxed hh (by decide) (by decide)).cell
      have cb := (hK.2.boxed hb (by decide) (by decide)).cell
      have ch' : ∀ o : Obj, (wr.alloc o).cell? ⟨Bh, 0, none⟩ = some (.func (.func 31) #[] #[.pointer (some ⟨Bn, 0, none⟩)]) := fun o => pw_cell_below (below_alloc (Below.refl _ wr) o) ch
      have cb' : ∀ o : Obj, (wr.alloc o).cell? ⟨Bn, 0, none⟩ = some (.int .i64 c0) := fun o => pw_cell_below (below_alloc (Below.refl _ wr) o) cb
      have hK2 : ∀ o o' : Obj, Kp n₀ W ((wr.alloc o).alloc o') := fun o o' => (hK.alloc (Nat.le_trans hn₀ hK.1.size) o).alloc (by simp; have := hK.1.size; omega) o'
      have hl := selR_len (sends c0) 0 (zs.take k)
      rw [List.length_take] at hl
      cases hp : sends c0 z with
      | true =>
        have HP := Aside0.mk hp
        have hsel := selR_yes (sends c0) zs k z hz hp
        clear hp
        obtain ⟨fn, tmps, assign, body, hy, hR⟩ := hY (selR (sends c0) 0 (zs.take k)) (k, z) ((wr.alloc (.cells #[.int .i64 z.ch, .bool z.sd, .int .i64 z.a, .int .i64 z.b, .slice z.A z.n z.c] 43)).alloc (.cells #[.int .i64 z.ch, .bool z.sd, .int .i64 z.a, .int .i64 z.b, .slice z.A z.n z.c] 43)) (hJ _ _ _ (hJ _ _ _ hJs)) (by omega)
        dsimp only [encA] at hy
        gi_wp2_with (refine ⟨trivial, fun h => (by cases h), ?_⟩; refine (callsIn_wide.2 (sends_any z c0 Bn _ (cb' _))).mono ?_; rw [HP.out]; rintro e w' ⟨rfl, rfl⟩)
        refine ⟨fun h => (by cases h), hR.mono ?_⟩
        rintro e W3 (⟨rfl, hJ3, hk3⟩ | ⟨rfl, hJx3⟩)
        · gi_wp2
          go_roundw
          case rel => exact ⟨k + 1, by omega, by simp, by rw [hsel]; exact hJ3, (hK2 _ _).t hk3⟩
          case measure => simp [intOf]; omega
        · gi_wp2
          refine bodyPost_ret (results_none rfl _ _ _) rfl ?_
          exact ⟨⟨_, rfl⟩, .inr ⟨_, selR_pre (sends c0) zs (k + 1), by rw [hsel]; exact hJx3⟩⟩
      | false =>
        have HP := Aside0.mk hp
        have hsel := selR_no (sends c0) zs k z hz hp
        clear hp
        gi_wp2_with (refine ⟨trivial, fun h => (by cases h), ?_⟩; refine (callsIn_wide.2 (sends_any z c0 Bn _ (cb' _))).mono ?_; rw [HP.out]; rintro e w' ⟨rfl, rfl⟩)
        refine ⟨fun _ h => (by cases h), ?_⟩
        gi_wp2
        go_roundw
        case rel => exact ⟨k + 1, by omega, by simp, by rw [hsel]; exact hJ _ _ _ (hJ _ _ _ hJs), hK2 _ _⟩
        case measure => simp [intOf]; omega
    · obtain rfl : k = zs.length := by omega
      gi_wp2
      go_end0
      rw [List.take_length] at hJs
      exact ⟨⟨_, rfl⟩, .inl ⟨_, rfl, hJs⟩⟩

set_option maxRecDepth 100000 in
set_option maxHeartbeats 2000000 in
theorem armsR_in (n l Bs Bh Bn n₀ : Nat) (A : Option Addr) (c : Nat) (zs : List RA) (c0 : Int) (hm : zs.length ≤ 9223372036854775807) (J Jx : List (Nat × RA) → World → Prop)
    (hJ : ∀ pre W o, J pre W → J pre (W.alloc o))
    (hY : ∀ pre x W, J pre W → pre.length < zs.length → YieldAt Fence.wide (n - 1) Try.prog l #[.int .i64 (x.1 : Nat), encA x.2] W fun e W' =>
      (e = .returned (.bool true) ∧ J (pre ++ [x]) W' ∧ Kp n₀ W W') ∨ (e = .returned (.bool false) ∧ Jx (pre ++ [x]) W'))
    (W : World) (hs : Boxed W Bs 36 (.slice A zs.length c)) (hh : Boxed W Bh 54 (.func (.func 33) #[] #[.pointer (some ⟨Bn, 0, none⟩)])) (hb : Boxed W Bn 3 (.int .i64 c0)) (hr : RowA n₀ W A zs) (h0 : J [] W) (hn₀ : n₀ ≤ W.heap.size) :
    CallsIn Fence.wide n Try.prog 30 #[.func (.yield l) #[] #[], .pointer (some ⟨Bs, 0, none⟩), .pointer (some ⟨Bh, 0, none⟩)] W fun e W' => (∃ v, e = .returned v) ∧
      ((∃ ys, ys = selR (recvs c0) 0 zs ∧ J ys W') ∨ (∃ pre, pre <+: selR (recvs c0) 0 zs ∧ Jx pre W')) := by
  refine callsIn_of_wp Try.func30 rfl trivial ?_ rfl
  simp only [Try.ntmps30, List.size_toArray, List.length_cons, List.length_nil, Nat.reduceAdd, Nat.reduceSub, Array.replicate_succ, Array.replicate_zero, List.push_toArray, List.append_toArray, List.nil_append, List.cons_append]
  have cs := hs.cell
  gi_wp2
  gi_loopw [8] (fun i wr => ∃ k : Nat, k ≤ zs.length ∧ i = .int .i64 k ∧ J (selR (recvs c0) 0 (zs.take k)) wr ∧ Kp n₀ W wr) (fun i _ => zs.length - (intOf i).toNat)
  case atStart => exact ⟨0, Nat.zero_le _, rfl, h0, Below.refl _ _, KT.refl _⟩
  case round =>
    obtain ⟨k, hk, rfl, hJs, hK⟩ := hrel
    by_cases hlt : k < zs.length
    · obtain ⟨z, hz⟩ : ∃ z, zs[k]? = some z := ⟨zs[k], List.getElem?_eq_getElem hlt⟩
      obtain ⟨ad, rfl, _, x0, x1, x2, x3, x4⟩ := (hr.below hK.1) k z hz
      have ch := (hK.2.boxed hh (by decide) (by decide)).cell
      have cb := (hK.2.boxed hb (by decide) (by decide)).cell
      have ch' : ∀ o : Obj, (wr.alloc o).cell? ⟨Bh, 0, none⟩ = some (.func (.func 33) #[] #[.pointer (some ⟨Bn, 0, none⟩)]) := fun o => pw_cell_below (below_alloc (Below.refl _ wr) o) ch
      have cb' : ∀ o : Obj, (wr.alloc o).cell? ⟨Bn, 0, none⟩ = some (.int .i64 c0) := fun o => pw_cell_below (below_alloc (Below.refl _ wr) o) cb
      have hK2 : ∀ o o' : Obj, Kp n₀ W ((wr.alloc o).alloc o') := fun o o' => (hK.alloc (Nat.le_trans hn₀ hK.1.size) o).alloc (by simp; have := hK.1.size; omega) o'
      have hl := selR_len (recvs c0) 0 (zs.take k)
      rw [List.length_take] at hl
      cases hp : recvs c0 z with
      | true =>
        have HP := Aside0.mk hp
        have hsel := selR_yes (recvs c0) zs k z hz hp
        clear hp
        obtain ⟨fn, tmps, assign, body, hy, hR⟩ := hY (selR (recvs c0) 0 (zs.take k)) (k, z) ((wr.alloc (.cells #[.int .i64 z.ch, .bool z.sd, .int .i64 z.a, .int .i64 z.b, .slice z.A z.n z.c] 43)).alloc (.cells #[.int .i64 z.ch, .bool z.sd, .int .i64 z.a, .int .i64 z.b, .slice z.A z.n z.c] 43)) (hJ _ _ _ (hJ _ _ _ hJs)) (by omega)
        dsimp only [encA] at hy
        gi_wp2_with (refine ⟨trivial, fun h => (by cases h), ?_⟩; refine (callsIn_wide.2 (recvs_any z c0 Bn _ (cb' _))).mono ?_; rw [HP.out]; rintro e w' ⟨rfl, rfl⟩)
        refine ⟨fun h => (by cases h), hR.mono ?_⟩
        rintro e W3 (⟨rfl, hJ3, hk3⟩ | ⟨rfl, hJx3⟩)
        · gi_wp2
          go_roundw
          case rel => exact ⟨k + 1, by omega, by simp, by rw [hsel]; exact hJ3, (hK2 _ _).t hk3⟩
          case measure => simp [intOf]; omega
        · gi_wp2
          refine bodyPost_ret (results_none rfl _ _ _) rfl ?_
          exact ⟨⟨_, rfl⟩, .inr ⟨_, selR_pre (recvs c0) zs (k + 1), by rw [hsel]; exact hJx3⟩⟩
      | false =>
        have HP := Aside0.mk hp
        have hsel := selR_no (recvs c0) zs k z hz hp
        clear hp
        gi_wp2_with (refine ⟨trivial, fun h => (by cases h), ?_⟩; refine (callsIn_wide.2 (recvs_any z c0 Bn _ (cb' _))).mono ?_; rw [HP.out]; rintro e w' ⟨rfl, rfl⟩)
        refine ⟨fun _ h => (by cases h), ?_⟩
        gi_wp2
        go_roundw
        case rel => exact ⟨k + 1, by omega, by simp, by rw [hsel]; exact hJ _ _ _ (hJ _ _ _ hJs), hK2 _ _⟩
        case measure => simp [intOf]; omega
    · obtain rfl : k = zs.length := by omega
      gi_wp2
      go_end0
      rw [List.take_length] at hJs
      exact ⟨⟨_, rfl⟩, .inl ⟨_, rfl, hJs⟩⟩

/-! ### waiters -/
structure RW where
  id : Int
  A : Option Addr
  n : Nat
  c : Nat
def encW (r : RW) : Value := .agg #[.int .i64 r.id, .slice r.A r.n r.c]
def others (c0 : Int) (r : RW) : Bool := r.id != c0
set_option maxHeartbeats 1000000 in
theorem others_any (r : RW) (c0 : Int) (Bn : Nat) (w : World) (hB : w.cell? ⟨Bn, 0, none⟩ = some (.int .i64 c0)) :
    Calls Try.prog 26 #[encW r, .pointer (some ⟨Bn, 0, none⟩)] w fun e w' => e = .returned (.bool (others c0 r)) ∧ w' = w.alloc (.cells #[.int .i64 r.id, .slice r.A r.n r.c] 38) := by
  obtain ⟨id, A, n, c⟩ := r
  have hb : ∀ o : Obj, (w.alloc o).cell? ⟨Bn, 0, none⟩ = some (.int .i64 c0) := fun o => pw_cell_below (below_alloc (Below.refl _ w) o) hB
  unfold encW others
  dsimp only
  clear hB
  go_enter Try.func26, Try.ntmps26
  go_wp2
  go_ret
  exact ⟨rfl, rfl⟩
def RowW (n₀ : Nat) (W : World) (A : Option Addr) (zs : List RW) : Prop := ∀ (j : Nat) (z : RW), zs[j]? = some z → ∃ ad, A = some ad ∧ (ad.add (j * 2)).block < n₀ ∧
  W.cell? (ad.add (j * 2)) = some (.int .i64 z.id) ∧ W.cell? ⟨(ad.add (j * 2)).block, (ad.add (j * 2)).off + 1, none⟩ = some (.slice z.A z.n z.c)
theorem RowW.below {n₀ : Nat} {W W' : World} {A : Option Addr} {zs : List RW} (h : RowW n₀ W A zs) (hb : Below n₀ W W') : RowW n₀ W' A zs := by
  intro j z hj
  obtain ⟨ad, e, hl, h0, h1⟩ := h j z hj
  exact ⟨ad, e, hl, (hb.cell (p := ad.add (j * 2)) hl).trans h0, (hb.cell (p := ⟨(ad.add (j * 2)).block, (ad.add (j * 2)).off + 1, none⟩) hl).trans h1⟩

def Sub (zs : List RW) : Type := { x : Nat × RW // zs[x.1]? = some x.2 }
set_option maxRecDepth 100000 in
set_option maxHeartbeats 2000000 in
theorem waits_in (n l Bs Bh Bn n₀ : Nat) (A : Option Addr) (c : Nat) (zs : List RW) (c0 : Int) (hm : zs.length ≤ 9223372036854775807) (J Jx : List (Sub zs) → World → Prop)
    (hJ : ∀ pre W o, J pre W → J pre (W.alloc o))
    (hY : ∀ pre x W, J pre W → pre.length < zs.length → YieldAt Fence.wide (n - 1) Try.prog l #[.int .i64 (x.1.1 : Nat), encW x.1.2] W fun e W' =>
      (e = .returned (.bool true) ∧ J (pre ++ [x]) W' ∧ Kp n₀ W W') ∨ (e = .returned (.bool false) ∧ Jx (pre ++ [x]) W'))
    (W : World) (hs : Boxed W Bs 22 (.slice A zs.length c)) (hh : Boxed W Bh 59 (.func (.func 26) #[] #[.pointer (some ⟨Bn, 0, none⟩)])) (pv : Value) (hb : W.heap[Bn]? = some (.cells #[.int .i64 c0, pv] 38 (0, 0))) (hr : RowW n₀ W A zs) (h0 : J [] W) (hn₀ : n₀ ≤ W.heap.size) :
    CallsIn Fence.wide n Try.prog 32 #[.func (.yield l) #[] #[], .pointer (some ⟨Bs, 0, none⟩), .pointer (some ⟨Bh, 0, none⟩)] W fun e W' => (∃ v, e = .returned v) ∧
      ((∃ ys : List (Sub zs), ys.map (·.1) = selR (others c0) 0 zs ∧ J ys W') ∨ (∃ pre : List (Sub zs), pre.map (·.1) <+: selR (others c0) 0 zs ∧ Jx pre W')) := by
  refine callsIn_of_wp Try.func32 rfl trivial ?_ rfl
  simp only [Try.ntmps32, List.size_toArray, List.length_cons, List.length_nil, Nat.reduceAdd, Nat.reduceSub, Array.replicate_succ, Array.replicate_zero, List.push_toArray, List.append_toArray, List.nil_append, List.cons_append]
  have cs := hs.cell
  gi_wp2
  gi_loopw [8] (fun i wr => ∃ k : Nat, k ≤ zs.length ∧ i = .int .i64 k ∧ (∃ ys : List (Sub zs), ys.map (·.1) = selR (others c0) 0 (zs.take k) ∧ J ys wr) ∧ Kp n₀ W wr) (fun i _ => zs.length - (intOf i).toNat)
  case atStart => exact ⟨0, Nat.zero_le _, rfl, ⟨[], rfl, h0⟩, Below.refl _ _, KT.refl _⟩
  case round =>
    obtain ⟨k, hk, rfl, ⟨ys, hys, hJs⟩, hK⟩ := hrel
    by_cases hlt : k < zs.length
    · obtain ⟨z, hz⟩ : ∃ z, zs[k]? = some z := ⟨zs[k], List.getElem?_eq_getElem hlt⟩
      obtain ⟨ad, rfl, _, x0, x1⟩ := (hr.below hK.1) k z hz
      have ch := (hK.2.boxed hh (by decide) (by decide)).cell
      have cb : wr.cell? ⟨Bn, 0, none⟩ = some (.int .i64 c0) := (cell_of_row wr Bn 0 _ _ _ (hK.2.2 Bn _ _ _ hb (by decide) (by decide))).trans rfl
      have ch' : ∀ o : Obj, (wr.alloc o).cell? ⟨Bh, 0, none⟩ = some (.func (.func 26) #[] #[.pointer (some ⟨Bn, 0, none⟩)]) := fun o => pw_cell_below (below_alloc (Below.refl _ wr) o) ch
      have cb' : ∀ o : Obj, (wr.alloc o).cell? ⟨Bn, 0, none⟩ = some (.int .i64 c0) := fun o => pw_cell_below (below_alloc (Below.refl _ wr) o) cb
      have hK2 : ∀ o o' : Obj, Kp n₀ W ((wr.alloc o).alloc o') := fun o o' => (hK.alloc (Nat.le_trans hn₀ hK.1.size) o).alloc (by simp; have := hK.1.size; omega) o'
      have hl := selR_len (others c0) 0 (zs.take k)
      rw [← hys, List.length_map, List.length_take] at hl
      cases hp : others c0 z with
      | true =>
        have HP := Aside0.mk hp
        have hsel := selR_yes (others c0) zs k z hz hp
        clear hp
        obtain ⟨fn, tmps, assign, body, hy, hR⟩ := hY ys ⟨(k, z), hz⟩ ((wr.alloc (.cells #[.int .i64 z.id, .slice z.A z.n z.c] 38)).alloc (.cells #[.int .i64 z.id, .slice z.A z.n z.c] 38)) (hJ _ _ _ (hJ _ _ _ hJs)) (by omega)
        dsimp only [encW] at hy
        gi_wp2_with (refine ⟨trivial, fun h => (by cases h), ?_⟩; refine (callsIn_wide.2 (others_any z c0 Bn _ (cb' _))).mono ?_; rw [HP.out]; rintro e w' ⟨rfl, rfl⟩)
        refine ⟨fun h => (by cases h), hR.mono ?_⟩
        rintro e W3 (⟨rfl, hJ3, hk3⟩ | ⟨rfl, hJx3⟩)
        · gi_wp2
          go_roundw
          case rel => exact ⟨k + 1, by omega, by simp, ⟨ys ++ [⟨(k, z), hz⟩], by rw [hsel, List.map_append, hys]; rfl, hJ3⟩, (hK2 _ _).t hk3⟩
          case measure => simp [intOf]; omega
        · gi_wp2
          refine bodyPost_ret (results_none rfl _ _ _) rfl ?_
          exact ⟨⟨_, rfl⟩, .inr ⟨ys ++ [⟨(k, z), hz⟩], by rw [List.map_append, hys]; have := selR_pre (others c0) zs (k + 1); rw [hsel] at this; exact this, hJx3⟩⟩
      | false =>
        have HP := Aside0.mk hp
        have hsel := selR_no (others c0) zs k z hz hp
        clear hp
        gi_wp2_with (refine ⟨trivial, fun h => (by cases h), ?_⟩; refine (callsIn_wide.2 (others_any z c0 Bn _ (cb' _))).mono ?_; rw [HP.out]; rintro e w' ⟨rfl, rfl⟩)
        refine ⟨fun _ h => (by cases h), ?_⟩
        gi_wp2
        go_roundw
        case rel => exact ⟨k + 1, by omega, by simp, ⟨ys, by rw [hsel, hys], hJ _ _ _ (hJ _ _ _ hJs)⟩, hK2 _ _⟩
        case measure => simp [intOf]; omega
    · obtain rfl : k = zs.length := by omega
      gi_wp2
      go_end0
      rw [List.take_length] at hys
      exact ⟨⟨_, rfl⟩, .inl ⟨_, hys, hJs⟩⟩

/-! ### the iterators, as the loops want them -/
theorem armsS_stops (n Bs Bh Bn n₀ : Nat) (A : Option Addr) (c : Nat) (zs : List RA) (c0 : Int) (hm : zs.length ≤ 9223372036854775807) (w : World) (hs : Boxed w Bs 36 (.slice A zs.length c)) (hh : Boxed w Bh 54 (.func (.func 31) #[] #[.pointer (some ⟨Bn, 0, none⟩)])) (hb : Boxed w Bn 3 (.int .i64 c0)) (hr : RowA n₀ w A zs) (hn₀ : n₀ ≤ w.heap.size) :
    SeqStopsK Fence.wide n Try.prog 30 #[.pointer (some ⟨Bs, 0, none⟩), .pointer (some ⟨Bh, 0, none⟩)] (fun x : Nat × RA => #[Value.int .i64 (x.1 : Nat), encA x.2]) (Kp n₀) (fun ys => ys = selR (sends c0) 0 zs) (fun pre => pre <+: selR (sends c0) 0 zs) zs.length w := fun l J Jx W hW hJ _ hY h0 =>
  armsS_in n l Bs Bh Bn n₀ A c zs c0 hm J Jx (fun pre X o h => hJ pre X _ none h (World.grownBy_alloc X o none) (fun _ e => by cases e)) hY W (heap_keep hs hW) (heap_keep hh hW) (heap_keep hb hW) (hr.below (hW.mono hn₀)) h0 (Nat.le_trans hn₀ hW.size)
theorem armsR_stops (n Bs Bh Bn n₀ : Nat) (A : Option Addr) (c : Nat) (zs : List RA) (c0 : Int) (hm : zs.length ≤ 9223372036854775807) (w : World) (hs : Boxed w Bs 36 (.slice A zs.length c)) (hh : Boxed w Bh 54 (.func (.func 33) #[] #[.pointer (some ⟨Bn, 0, none⟩)])) (hb : Boxed w Bn 3 (.int .i64 c0)) (hr : RowA n₀ w A zs) (hn₀ : n₀ ≤ w.heap.size) :
    SeqStopsK Fence.wide n Try.prog 30 #[.pointer (some ⟨Bs, 0, none⟩), .pointer (some ⟨Bh, 0, none⟩)] (fun x : Nat × RA => #[Value.int .i64 (x.1 : Nat), encA x.2]) (Kp n₀) (fun ys => ys = selR (recvs c0) 0 zs) (fun pre => pre <+: selR (recvs c0) 0 zs) zs.length w := fun l J Jx W hW hJ _ hY h0 =>
  armsR_in n l Bs Bh Bn n₀ A c zs c0 hm J Jx (fun pre X o h => hJ pre X _ none h (World.grownBy_alloc X o none) (fun _ e => by cases e)) hY W (heap_keep hs hW) (heap_keep hh hW) (heap_keep hb hW) (hr.below (hW.mono hn₀)) h0 (Nat.le_trans hn₀ hW.size)
theorem waits_stops (n Bs Bh Bn n₀ : Nat) (A : Option Addr) (c : Nat) (zs : List RW) (c0 : Int) (hm : zs.length ≤ 9223372036854775807) (w : World) (hs : Boxed w Bs 22 (.slice A zs.length c)) (hh : Boxed w Bh 59 (.func (.func 26) #[] #[.pointer (some ⟨Bn, 0, none⟩)])) (pv : Value) (hb : w.heap[Bn]? = some (.cells #[.int .i64 c0, pv] 38 (0, 0))) (hr : RowW n₀ w A zs) (hn₀ : n₀ ≤ w.heap.size) :
    SeqStopsK Fence.wide n Try.prog 32 #[.pointer (some ⟨Bs, 0, none⟩), .pointer (some ⟨Bh, 0, none⟩)] (fun x : Sub zs => #[Value.int .i64 (x.1.1 : Nat), encW x.1.2]) (Kp n₀) (fun ys => ys.map (·.1) = selR (others c0) 0 zs) (fun pre => pre.map (·.1) <+: selR (others c0) 0 zs) zs.length w := fun l J Jx W hW hJ _ hY h0 =>
  waits_in n l Bs Bh Bn n₀ A c zs c0 hm J Jx (fun pre X o h => hJ pre X _ none h (World.grownBy_alloc X o none) (fun _ e => by cases e)) hY W (heap_keep hs hW) (heap_keep hh hW) pv (heap_keep hb hW) (hr.below (hW.mono hn₀)) h0 (Nat.le_trans hn₀ hW.size)

end Go.Proofs.Ytokbonceeglciaa.Given
