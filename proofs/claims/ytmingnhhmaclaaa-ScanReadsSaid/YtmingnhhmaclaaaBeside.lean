/- An append behind a slice's end: the slice itself stays, whichever way the append goes. -/
import Derived.Test.YtmingnhhmaclaaaPrint0
import Derived.Test.YtmingnhhmaclaaaWApart
import Derived.ArgAppend
import Derived.Maps.AppendAt
import Derived.Laws.OwnMore
namespace Go.Proofs.Ytmingnhhmaclaaa.Given
open Go.RowKit Go.Proofs.YtmingnhhmaclaaaW.PrintWords
set_option linter.unusedVariables false
set_option linter.unusedSimpArgs false

/-- What an append to v (n elements; it left v1) did to the slices in v's block. -/
def Stays (W w1 : World) (e size : Nat) (v : Value) (n : Nat) (v1 : Value) : Prop :=
  (∃ p cap, v = .slice (some p) n cap ∧ v1 = .slice (some p) (n + 1) cap ∧ ∀ b m inner, m ≤ n → W.ownsRow b e size (.slice (some p) m cap) m inner → w1.ownsRow b e size (.slice (some p) m cap) m inner)
  ∨ (W.grownBy w1 none ∧ ∃ b, v1.ownBlock = some b ∧ W.heap.size ≤ b)

theorem own_room {W : World} {g n m cap e size b : Nat} {cur : Array Value} {ys inner : List Value} (hh : W.heap[g]? = some (.cells cur e (0, 0))) (hys : ys.length = size) (hcs : cur.size = cap * size) (hroom : n + 1 ≤ cap) (hmn : m ≤ n)
    (h : W.ownsRow b e size (.slice (some ⟨g, 0, none⟩) m cap) m inner) : (W.setRow g (cur.toList.take (n * size) ++ ys ++ cur.toList.drop (n * size + ys.length)).toArray).ownsRow b e size (.slice (some ⟨g, 0, none⟩) m cap) m inner := by
  refine ⟨h.1, ?_⟩
  rcases h.2 with ⟨h', _⟩ | ⟨g', cap', cur', h', hb, hg, hnc, hcm, hcs', htake⟩
  · cases h'
  · injection h' with e1 _ e3
    injection e1 with e1
    injection e1 with e1
    subst e1
    subst e3
    rw [hh] at hg
    injection hg with hg
    injection hg with hg
    subst hg
    have hle : n * size + size ≤ cap * size := by rw [← Nat.succ_mul]; exact Nat.mul_le_mul_right _ hroom
    have hle2 : m * size ≤ n * size := Nat.mul_le_mul_right _ hmn
    refine .inr ⟨g, cap, _, rfl, hb, setRow_heap W g cur _ e _ hh, hnc, hcm, ?_, ?_⟩
    · simp only [List.size_toArray, List.length_append, List.length_take, List.length_drop, Array.length_toList]
      omega
    · rw [← htake]
      show List.take (m * size) (List.take (n * size) cur.toList ++ ys ++ List.drop (n * size + ys.length) cur.toList) = _
      rw [List.append_assoc, List.take_append_of_le_length (by rw [List.length_take, Array.length_toList]; omega), List.take_take, Nat.min_eq_left hle2]
theorem run_append_beside {P : Program} {W : World} {base : Nat} {t ty e : TypeId} {z : Value} {size bytes : Nat}
    (ht : P.underlying t = some (.slice e)) (hinfo : (P.info? e).map (fun i => (i.zero, i.size, i.bytes)) = some (some z, size, bytes)) (hz : z.cells.size = size) (hs0 : 0 < size) (hb0 : 0 < bytes)
    {v : Value} {n : Nat} {xs ys : List Value} (hys : ys.length = size) (h1 : ∀ u ∈ ys, u.oneCell' = true)
    (HO : W.ownsRow base e size v n xs) (hbase : base ≤ W.heap.size) (hl : (n + 1) * bytes ≤ 140737488355328) :
    ∃ v1 w1, (Builtin.append_ #[t, t] ty #[v, .slice (some ⟨W.heap.size, 0, none⟩) 1 1]).run P (W.alloc (.cells ys.toArray e)) = .ok v1 w1 ∧ w1.ownsRow base e size v1 (n + 1) (xs ++ ys) ∧ W.grownBy w1 v.ownBlock ∧ Stays W w1 e size v n v1 := by
  obtain ⟨i0, hi, hzz⟩ := Option.map_eq_some_iff.1 hinfo
  simp only [Prod.mk.injEq] at hzz
  obtain ⟨hz0, hz1, hz2⟩ := hzz
  have hlen : n + 1 ≤ 140737488355328 := Nat.le_trans (Nat.le_mul_of_pos_right _ hb0) hl
  have hnews : ∀ j u, ys[j]? = some u → (W.alloc (.cells ys.toArray e)).cell? ((⟨W.heap.size, 0, none⟩ : Addr).add j) = some u := by
    simpa using World.news_of_block (cs := ys.toArray) (t := e) (fr := (0, 0)) (heap_alloc_new W (.cells ys.toArray e))
  have old : ∀ (hn : ∀ p cap, v = .slice (some p) n cap → cap < n + 1), ∃ v1 w1, (Builtin.append_ #[t, t] ty #[v, .slice (some ⟨W.heap.size, 0, none⟩) 1 1]).run P (W.alloc (.cells ys.toArray e)) = .ok v1 w1 ∧ w1.ownsRow base e size v1 (n + 1) (xs ++ ys) ∧ W.grownBy w1 v.ownBlock ∧ Stays W w1 e size v n v1 := by
    intro hn
    rcases HO.2 with ⟨rfl, rfl⟩ | ⟨g, cap, cur, rfl, hg, hh, hnc, hcm, hcs, htake⟩
    · obtain ⟨v1, w1, hr, hown, hg, hiff, hat⟩ := run_append_own_at (P := P) (W.alloc (.cells ys.toArray e)) base t ty e i0 z size bytes ht hi hz0 hz1 hz2 hz hs0 _ 0 xs (HO.alloc _) ⟨W.heap.size, 0, none⟩ 1 1 ys (by rw [hys]; simp) hnews h1 (by simp only [maxLen]; omega) hl (by simp; omega)
      have hg2 := World.grownBy.trans (World.grownBy_alloc W (.cells ys.toArray e) _) hg
      refine ⟨v1, w1, hr, hown, hg2, .inr ⟨hg2, ?_⟩⟩
      rcases hat with hat | hat
      · exfalso
        rcases hown.2 with ⟨_, h2⟩ | ⟨g, cap, cur, rfl, _⟩
        · omega
        · simp [Value.ownBlock] at hat
      · exact ⟨_, hat, by simp⟩
    · have hcap := hn _ _ rfl
      have holds : ∀ j u, xs[j]? = some u → (W.alloc (.cells ys.toArray e)).cell? ((⟨g, 0, none⟩ : Addr).add j) = some u := (HO.alloc _).cells (g := g) rfl
      obtain ⟨v1, w1, hr, hown, hgr⟩ := run_append_arg_grows (P := P) (W.alloc (.cells ys.toArray e)) t ty e i0 z size bytes ht hi hz0 hz1 hz2 hz hs0 ⟨g, 0, none⟩ n cap xs HO.1 holds ⟨W.heap.size, 0, none⟩ 1 1 ys (by rw [hys]; simp) hnews hcap (by simp only [maxLen]; omega) hl
      have hg2 : W.grownBy w1 none := World.grownBy.trans (World.grownBy_alloc W _ _) hgr
      refine ⟨v1, w1, hr, own_weaken hown (by simp; omega), ⟨hg2.os, hg2.tape, hg2.output, hg2.size, fun k hk _ => hg2.block k hk (by simp)⟩, .inr ⟨hg2, ?_⟩⟩
      rcases hown.2 with ⟨_, h2⟩ | ⟨g1, cap1, cur1, rfl, hb1, _⟩
      · omega
      · exact ⟨g1, rfl, by simp at hb1; omega⟩
  rcases HO.2 with ⟨rfl, rfl⟩ | ⟨g, cap, cur, rfl, hg, hh, hnc, hcm, hcs, htake⟩
  · exact old (fun p cap h => by cases h)
  · by_cases hroom : n + 1 ≤ cap
    · have hal : ∀ k, k < W.heap.size → (W.alloc (.cells ys.toArray e)).heap[k]? = W.heap[k]? := fun k hk => (World.grownBy_alloc W (.cells ys.toArray e) none).block k hk (by simp)
      have hh2 := (hal g (blk_lt hh)).trans hh
      have hle : n * size + size ≤ cap * size := by rw [← Nat.succ_mul]; exact Nat.mul_le_mul_right _ hroom
      have hr := run_append_room (P := P) (W.alloc (.cells ys.toArray e)) t ty e i0 ht hi g n cap cur hh2 ⟨W.heap.size, 0, none⟩ 1 1 ys (by rw [hys, hz1]; simp) hnews h1 hroom (by rw [hz1]; omega)
      rw [hz1] at hr
      refine ⟨_, _, hr, ⟨by rw [List.length_append, HO.1, hys, Nat.add_mul]; omega, .inr ⟨g, cap, _, rfl, hg, setRow_heap _ g cur _ e _ hh2, hroom, hcm, ?_, ?_⟩⟩, ?_, .inl ⟨⟨g, 0, none⟩, cap, rfl, rfl, fun b m inner hm hI => own_room hh2 hys hcs hroom hm (hI.alloc _)⟩⟩
      · simp only [List.size_toArray, List.length_append, List.length_take, List.length_drop, Array.length_toList]
        omega
      · have hxl := HO.1
        show List.take ((n + 1) * size) (List.take (n * size) cur.toList ++ ys ++ List.drop (n * size + ys.length) cur.toList) = _
        rw [htake, Nat.succ_mul, List.take_left' (by rw [List.length_append, hxl, hys])]
      · exact ⟨rfl, rfl, rfl, by simp, fun k hk hne => (setRow_other _ g k _ (fun he => hne (by simp [Value.ownBlock, he]))).trans (hal k hk)⟩
    · exact old (fun p c h => by injection h with _ _ h; omega)
section
variable {P : Program} {ops : Array Oper} {rest : List Oper} {o : Oper} {a : Act} {Q : Exit → Act → World → Prop} {Kc : Act → World → Prop}
/-- append(v, x), behind 'at_builtin'; the goal's world is 'W.alloc' of the variadic's box. -/
theorem append_beside {W : World} (base : Nat) (hgd : o.guard = none) (s x : Operand) (t e : TypeId) (z : Value) (size bytes : Nat)
    (ho : o.op = .call { callee := .builtin .append, args := #[s, x], argTypes := #[t, t] })
    (ht : P.underlying t = some (.slice e)) (hinfo : (P.info? e).map (fun i => (i.zero, i.size, i.bytes)) = some (some z, size, bytes)) (hz : z.cells.size = size) (hs0 : 0 < size) (hb0 : 0 < bytes)
    (v : Value) (n : Nat) (xs ys : List Value) (hs : a.eval s = v) (hx : a.eval x = .slice (some ⟨W.heap.size, 0, none⟩) 1 1) (hys : ys.length = size) (h1 : ∀ u ∈ ys, u.oneCell' = true)
    (HO : W.ownsRow base e size v n xs) (hbase : base ≤ W.heap.size) (hl : (n + 1) * bytes ≤ 140737488355328)
    (h : ∀ v1 w1, w1.ownsRow base e size v1 (n + 1) (xs ++ ys) → W.grownBy w1 v.ownBlock → Stays W w1 e size v n v1 → wpList P ops Q rest (a.put o.dst v1) w1) :
    wpList P ops Q (o :: rest) a (W.alloc (.cells ys.toArray e)) := by
  obtain ⟨v1, w1, hr, h2, h3, h4⟩ := run_append_beside (P := P) (ty := o.type) ht hinfo hz hs0 hb0 hys h1 HO hbase hl
  refine wpList_plain hgd fun K hK => ?_
  unfold Oper.wp execOp
  simp only [ho, resolve, invoke, builtin, Sem.run_bind, Sem.run_pure, Result.andThen_ok, List.map_toArray, List.map_cons, List.map_nil, hs, hx, hr]
  exact hK _ _ (h v1 w1 h2 h3 h4)
theorem append_beside_step {W : World} (base : Nat) (hw : Region.wanted o (yielded ops a.tmps) = true) (s x : Operand) (t e : TypeId) (z : Value) (size bytes : Nat)
    (ho : o.op = .call { callee := .builtin .append, args := #[s, x], argTypes := #[t, t] })
    (ht : P.underlying t = some (.slice e)) (hinfo : (P.info? e).map (fun i => (i.zero, i.size, i.bytes)) = some (some z, size, bytes)) (hz : z.cells.size = size) (hs0 : 0 < size) (hb0 : 0 < bytes)
    (v : Value) (n : Nat) (xs ys : List Value) (hs : a.eval s = v) (hx : a.eval x = .slice (some ⟨W.heap.size, 0, none⟩) 1 1) (hys : ys.length = size) (h1 : ∀ u ∈ ys, u.oneCell' = true)
    (HO : W.ownsRow base e size v n xs) (hbase : base ≤ W.heap.size) (hl : (n + 1) * bytes ≤ 140737488355328)
    (h : ∀ v1 w1, w1.ownsRow base e size v1 (n + 1) (xs ++ ys) → W.grownBy w1 v.ownBlock → Stays W w1 e size v n v1 → Kc (a.put o.dst v1) w1) :
    if Region.wanted o (yielded ops a.tmps) = true then Oper.wp P o a (W.alloc (.cells ys.toArray e)) Kc Q else Kc (a.put o.dst undef) (W.alloc (.cells ys.toArray e)) := by
  obtain ⟨v1, w1, hr, h2, h3, h4⟩ := run_append_beside (P := P) (ty := o.type) ht hinfo hz hs0 hb0 hys h1 HO hbase hl
  rw [if_pos hw]
  unfold Oper.wp execOp
  simp only [ho, resolve, invoke, builtin, Sem.run_bind, Sem.run_pure, Result.andThen_ok, List.map_toArray, List.map_cons, List.map_nil, hs, hx, hr]
  exact h v1 w1 h2 h3 h4
end
/-- Since W: v's block alone was written, and what v reads stayed. -/
structure Ext (W w : World) (e size : Nat) (v : Value) (n : Nat) : Prop where
  grown : W.grownBy w v.ownBlock
  stays : ∀ b inner, W.ownsRow b e size v n inner → w.ownsRow b e size v n inner
/-- vc is v, longer, in v's block; or it lies elsewhere. -/
def Side (top : Nat) (v : Value) (n : Nat) (vc : Value) (m : Nat) : Prop :=
  (∃ p cap, v = .slice (some p) n cap ∧ vc = .slice (some p) m cap ∧ n ≤ m) ∨ ∀ k, vc.ownBlock = some k → top ≤ k
theorem Ext.refl (W : World) (e size : Nat) (v : Value) (n : Nat) : Ext W W e size v n := ⟨⟨rfl, rfl, rfl, Nat.le_refl _, fun _ _ _ => rfl⟩, fun _ _ h => h⟩
theorem Side.refl {A : Option Addr} {top n cap : Nat} : Side top (.slice A n cap) n (.slice A n cap) n := by
  cases A with
  | none => exact .inr (fun k hk => by simp [Value.ownBlock] at hk)
  | some p => exact .inl ⟨p, cap, rfl, rfl, Nat.le_refl _⟩
theorem Ext.step {W0 W w1 : World} {e size n m : Nat} {v vc v1 : Value} (hx : Ext W0 W e size v n) (hs : Side W0.heap.size v n vc m) (hg : W.grownBy w1 vc.ownBlock) (hst : Stays W w1 e size vc m v1) : Ext W0 w1 e size v n ∧ Side W0.heap.size v n v1 (m + 1) := by
  have hsz := hx.grown.size
  rcases hst with ⟨p, cap, rfl, rfl, hk⟩ | ⟨hg2, b, hv1, hb⟩
  · rcases hs with ⟨p', cap', rfl, h2, hn⟩ | hs
    · injection h2 with e1 _ e3
      injection e1 with e1
      subst e1 e3
      have ho : (Value.slice (some p) n cap).ownBlock = (Value.slice (some p) m cap).ownBlock := rfl
      refine ⟨⟨?_, fun b inner hI => hk b n inner hn (hx.stays b inner hI)⟩, .inl ⟨p, cap, rfl, rfl, by omega⟩⟩
      rw [ho]
      exact World.grownBy.trans (by rw [← ho]; exact hx.grown) hg
    · have hp := hs p.block rfl
      refine ⟨⟨⟨hg.os.trans hx.grown.os, hg.tape.trans hx.grown.tape, hg.output.trans hx.grown.output, Nat.le_trans hsz hg.size, fun k hk hne => ?_⟩, fun b inner hI => ?_⟩, .inr hs⟩
      · refine (hg.block k (by omega) (fun he => ?_)).trans (hx.grown.block k hk hne)
        simp [Value.ownBlock] at he
        omega
      · refine (hx.stays b inner hI).kept hg ?_
        right
        intro he
        have := (hI.lt p.block (by rw [he]; rfl)).2
        omega
  · have hall : W0.grownBy w1 v.ownBlock := ⟨hg2.os.trans hx.grown.os, hg2.tape.trans hx.grown.tape, hg2.output.trans hx.grown.output, Nat.le_trans hsz hg2.size, fun k hk hne => (hg2.block k (by omega) (by simp)).trans (hx.grown.block k hk hne)⟩
    refine ⟨⟨hall, fun b inner hI => (hx.stays b inner hI).kept hg2 (by cases v.ownBlock <;> simp)⟩, .inr (fun k hk => ?_)⟩
    rw [hv1] at hk
    injection hk with hk
    omega
/-- A row of which only cells behind its end were written. -/
theorem R_stay {α : Type} {d : Kd α} {e base : Nat} {ok : Nat → Prop} {W w : World} {v : Value} {xs : List α} (h : d.R e W base ok v xs) (hx : Ext W w e d.sz v xs.length) : d.R e w base ok v xs := by
  obtain ⟨h0, inner, ho, hr⟩ := h
  refine ⟨h0, inner, hx.stays _ _ ho, hr.imp_ (fun p c hp => ?_)⟩
  exact Kd.M_step hp (fun k hk hlt => hx.grown.block k hlt hk.2)
theorem S_stay {α : Type} {d : Kd α} {e base : Nat} {ok : Nat → Prop} {W w : World} {v : Value} {xs : List α} (h : d.S e W base ok v xs) (hx : Ext W w e d.sz v xs.length) : d.S e w base ok v xs := by
  obtain ⟨f, h⟩ := h
  exact ⟨f, R_stay (d := Kd.tag f d) h (by rw [List.length_zipIdx]; exact hx)⟩
end Go.Proofs.Ytmingnhhmaclaaa.Given
