/- Lists that are kept in a book, each with what it must read as: what is said of their memory. -/
import Derived.Test.YtmingnhhmaclaaaBeside
namespace Go.Proofs.Ytmingnhhmaclaaa.Bk
open Go.RowKit Go.Proofs.YtmingnhhmaclaaaW.PrintWords Go.Proofs.Ytmingnhhmaclaaa.Given
set_option linter.unusedVariables false
set_option linter.unusedSimpArgs false

abbrev Any : Nat → Prop := fun _ => True
/-- All blocks of a type are as they were. -/
def KT (t : TypeId) (w w' : World) : Prop := ∀ (k : Nat) (cs : Array Value), w.heap[k]? = some (.cells cs t (0, 0)) → w'.heap[k]? = some (.cells cs t (0, 0))
theorem KT.refl (t : TypeId) (w : World) : KT t w w := fun _ _ h => h
theorem KT.trans {t : TypeId} {w w1 w2 : World} (h : KT t w w1) (k : KT t w1 w2) : KT t w w2 := fun a cs ha => k a cs (h a cs ha)
theorem KT.below {t : TypeId} {w w1 : World} (h : Below w.heap.size w w1) : KT t w w1 := fun k cs hk => blk_below hk h
theorem KT.grown {t e : TypeId} {w w1 : World} {v : Value} (hg : w.grownBy w1 v.ownBlock) (hty : ∀ k, v.ownBlock = some k → ∃ cells, w.heap[k]? = some (.cells cells e (0, 0))) (hne : t ≠ e) : KT t w w1 := fun k cs hk =>
  blk_grown hk hg (fun he => by
    obtain ⟨cells, hc⟩ := hty k he.symm
    rw [hk] at hc
    injection hc with hc
    injection hc with _ h2
    exact hne h2)
theorem KT.of_none {t : TypeId} {w w1 : World} (hg : w.grownBy w1 none) : KT t w w1 := fun k cs hk => blk_grown hk hg (by simp)
theorem KT.set {t e : TypeId} {w : World} {g : Nat} {cs0 : Array Value} (hb : w.heap[g]? = some (.cells cs0 e (0, 0))) (hne : t ≠ e) (j : Nat) (u : Value) : KT t w (w.setCell ⟨g, j, none⟩ u) := fun k cs hk =>
  (Below.heap_setCell w ⟨g, j, none⟩ u k (fun he => by
    have he : k = g := he
    subst he
    rw [hk] at hb
    injection hb with hb
    injection hb with _ h2
    exact hne h2)).trans hk
section
variable {α : Type} {d : Kd α} {e base : Nat} {ok : Nat → Prop} {w w1 : World} {v : Value} {xs : List α}
theorem R_kt (hE : d.E = []) (h : d.R e w base ok v xs) (hk : KT e w w1) : d.R e w1 base ok v xs := by
  have h1 := Kd.R_step (w1 := w1) (Kd.R_tight hE h) (fun k ho _ => by
    obtain ⟨cells, hc⟩ := Kd.R_typed h k ho.symm
    rw [hc, hk k cells hc])
  exact Kd.R_mono h1 (fun k hk => h.1 k hk.symm)
/-- Its own block is as it was. -/
theorem R_own_kept (hE : d.E = []) (h : d.R e w base ok v xs) (hk : ∀ k, v.ownBlock = some k → w1.heap[k]? = w.heap[k]?) : d.R e w1 base ok v xs :=
  Kd.R_mono (Kd.R_step (w1 := w1) (Kd.R_tight hE h) (fun k ho _ => hk k ho.symm)) (fun k hk => h.1 k hk.symm)
/-- Another row was written. -/
theorem R_other (hE : d.E = []) (h : d.R e w base ok v xs) {row : Option Nat} (hg : w.grownBy w1 row) (hne : ∀ k, v.ownBlock = some k → row ≠ some k) : d.R e w1 base ok v xs :=
  R_own_kept hE h (fun k hk => hg.block k (Kd.R_lt h k hk) (fun he => hne k hk he.symm))
theorem R_any (h : d.R e w base ok v xs) : d.R e w base Any v xs := Kd.R_mono h (fun _ _ => trivial)
end
/-- No two of some slices share a block. -/
def Parted (l : List Value) : Prop := ∀ (p q : Nat) (u v : Value), l[p]? = some u → l[q]? = some v → p ≠ q → ∀ k, u.ownBlock = some k → v.ownBlock ≠ some k
/-- A book: its own block, its two rows of slices. -/
structure Book (w : World) (g base tb eo : Nat) (vo vw : Value) (fr : Int) (ol wl : List Value) : Prop where
  low : base ≤ g
  blk : w.heap[g]? = some (.cells #[vo, vw, .int .i64 fr] tb (0, 0))
  ro : (Kd.raw 1).R eo w base Any vo (ol.map (fun v => [v]))
  rw : (Kd.raw 1).R eo w base Any vw (wl.map (fun v => [v]))
  ap : ∀ k, vo.ownBlock = some k → vw.ownBlock ≠ some k
theorem Book.kt {w w1 : World} {g base tb eo : Nat} {vo vw : Value} {fr : Int} {ol wl : List Value} (h : Book w g base tb eo vo vw fr ol wl) (h1 : KT tb w w1) (h2 : KT eo w w1) : Book w1 g base tb eo vo vw fr ol wl :=
  ⟨h.low, h1 _ _ h.blk, R_kt rfl h.ro h2, R_kt rfl h.rw h2, h.ap⟩
/-- Only blocks that are ok, or new, were written. -/
structure Kept (ok : Nat → Prop) (W w : World) : Prop where
  os : w.os = W.os
  tape : w.tape = W.tape
  output : w.output = W.output
  size : W.heap.size ≤ w.heap.size
  block : ∀ k, k < W.heap.size → ¬ ok k → w.heap[k]? = W.heap[k]?
theorem Kept.refl (ok : Nat → Prop) (W : World) : Kept ok W W := ⟨rfl, rfl, rfl, Nat.le_refl _, fun _ _ _ => rfl⟩
theorem Kept.grown {ok : Nat → Prop} {W w w1 : World} {row : Option Nat} (h : Kept ok W w) (hg : w.grownBy w1 row) (hok : ∀ k, row = some k → ok k ∨ W.heap.size ≤ k) : Kept ok W w1 :=
  ⟨hg.os.trans h.os, hg.tape.trans h.tape, hg.output.trans h.output, Nat.le_trans h.size hg.size, fun k hk hn => (hg.block k (Nat.lt_of_lt_of_le hk h.size) (fun he => (hok k he.symm).elim hn (fun h2 => by omega))).trans (h.block k hk hn)⟩
theorem Kept.below {ok : Nat → Prop} {W w w1 : World} (h : Kept ok W w) (hb : Below w.heap.size w w1) : Kept ok W w1 :=
  ⟨hb.os.trans h.os, hb.tape.trans h.tape, hb.output.trans h.output, Nat.le_trans h.size hb.size, fun k hk hn => (hb.block k (Nat.lt_of_lt_of_le hk h.size)).trans (h.block k hk hn)⟩
theorem Kept.set {ok : Nat → Prop} {W w : World} (h : Kept ok W w) (g j : Nat) (u : Value) (hok : ok g) : Kept ok W (w.setCell ⟨g, j, none⟩ u) :=
  ⟨h.os, h.tape, h.output, by simpa [World.setCell] using h.size, fun k hk hn => (Below.heap_setCell w ⟨g, j, none⟩ u k (fun he => hn (by have he : k = g := he; rw [he]; exact hok))).trans (h.block k hk hn)⟩
theorem Kept.to_below {ok : Nat → Prop} {W w : World} {base : Nat} (h : Kept ok W w) (hok : ∀ k, ok k → base ≤ k) (hb : base ≤ W.heap.size) : Below base W w :=
  ⟨h.os, h.tape, h.output, h.size, fun k hk => h.block k (by omega) (fun h2 => by have := hok k h2; omega)⟩
theorem below_setG {base g : Nat} {w w1 : World} (h : Below base w w1) (hg : base ≤ g) (j : Nat) (u : Value) : Below base w (w1.setCell ⟨g, j, none⟩ u) :=
  ⟨h.os, h.tape, h.output, by simpa [World.setCell] using h.size, fun k hk => (Below.heap_setCell w1 ⟨g, j, none⟩ u k (by show k ≠ g; omega)).trans (h.block k hk)⟩
/-- A slice is laid down behind the first row's end. -/
theorem Book.pushO {w w1 : World} {g base tb eo : Nat} {vo vw u : Value} {fr : Int} {ol wl : List Value} {l : Value} (h : Book w g base tb eo vo vw fr ol wl) (hne : eo ≠ tb) (hr : (Kd.raw 1).R eo w1 base Any u (ol.map (fun v => [v]) ++ [[l]])) (hg : w.grownBy w1 vo.ownBlock) (hat : u.ownBlock = vo.ownBlock ∨ ∃ b, u.ownBlock = some b ∧ w.heap.size ≤ b) :
    w1.cell? ⟨g, 0, none⟩ = some vo ∧ w1.frozen? ⟨g, 0, none⟩ = false ∧ Book (w1.setCell ⟨g, 0, none⟩ u) g base tb eo u vw fr (ol ++ [l]) wl ∧ (∀ t, t ≠ eo → t ≠ tb → KT t w (w1.setCell ⟨g, 0, none⟩ u)) := by
  have hb1 := blk_grown h.blk hg (Kd.R_ne h.ro h.blk hne)
  have hw1 := R_other (w1 := w1) rfl h.rw hg (fun k hk he => h.ap k he hk)
  refine ⟨(blk_cell hb1 0).trans rfl, blk_frozen hb1 0, ⟨h.low, (blk_set hb1 0 u).trans rfl, ?_, Kd.R_set hw1 hb1 (by simpa [Kd.raw] using hne) 0 u, fun k hk => ?_⟩, fun t h1 h2 => (KT.grown hg (Kd.R_typed h.ro) h1).trans (KT.set hb1 h2 0 u)⟩
  · rw [show (ol ++ [l]).map (fun v => [v]) = ol.map (fun v => [v]) ++ [[l]] by simp]
    exact Kd.R_set hr hb1 (by simpa [Kd.raw] using hne) 0 u
  · rcases hat with he | ⟨b, hb, hle⟩
    · exact h.ap k (he ▸ hk)
    · intro hv
      have := Kd.R_lt h.rw k hv
      rw [hb] at hk
      injection hk with hk
      omega
theorem Book.pushW {w w1 : World} {g base tb eo : Nat} {vo vw u : Value} {fr : Int} {ol wl : List Value} {l : Value} (h : Book w g base tb eo vo vw fr ol wl) (hne : eo ≠ tb) (hr : (Kd.raw 1).R eo w1 base Any u (wl.map (fun v => [v]) ++ [[l]])) (hg : w.grownBy w1 vw.ownBlock) (hat : u.ownBlock = vw.ownBlock ∨ ∃ b, u.ownBlock = some b ∧ w.heap.size ≤ b) :
    w1.cell? ⟨g, 1, none⟩ = some vw ∧ w1.frozen? ⟨g, 1, none⟩ = false ∧ Book (w1.setCell ⟨g, 1, none⟩ u) g base tb eo vo u fr ol (wl ++ [l]) ∧ (∀ t, t ≠ eo → t ≠ tb → KT t w (w1.setCell ⟨g, 1, none⟩ u)) := by
  have hb1 := blk_grown h.blk hg (Kd.R_ne h.rw h.blk hne)
  have hw1 := R_other (w1 := w1) rfl h.ro hg (fun k hk he => h.ap k hk he)
  refine ⟨(blk_cell hb1 1).trans rfl, blk_frozen hb1 1, ⟨h.low, (blk_set hb1 1 u).trans rfl, Kd.R_set hw1 hb1 (by simpa [Kd.raw] using hne) 1 u, ?_, fun k hk hv => ?_⟩, fun t h1 h2 => (KT.grown hg (Kd.R_typed h.rw) h1).trans (KT.set hb1 h2 1 u)⟩
  · rw [show (wl ++ [l]).map (fun v => [v]) = wl.map (fun v => [v]) ++ [[l]] by simp]
    exact Kd.R_set hr hb1 (by simpa [Kd.raw] using hne) 1 u
  · rcases hat with he | ⟨b, hb, hle⟩
    · exact h.ap k hk (he ▸ hv)
    · have := Kd.R_lt h.ro k hk
      rw [hb] at hv
      injection hv with hv
      omega
theorem raw_at {w : World} {base g cap eo n : Nat} {l : List Value} (h : (Kd.raw 1).R eo w base Any (.slice (some ⟨g, 0, none⟩) n cap) (l.map (fun v => [v]))) {i : Nat} {u : Value} (hr : l[i]? = some u) : w.cell? ⟨g, i, none⟩ = some u := by
  have hn := (Kd.R_reads' h).1
  have hi := (List.getElem?_eq_some_iff.1 hr).1
  rw [List.length_map] at hn
  obtain ⟨c, hcl, hM, hcc, _⟩ := Kd.R_elem h [] (i : Int) (by omega) (by omega)
  rw [Int.toNat_natCast] at hM hcc
  have e : (l.map (fun v => [v])).getD i [] = [u] := by rw [List.getD_eq_getElem?_getD, List.getElem?_map, hr]; rfl
  rw [e] at hM
  obtain ⟨rfl, _⟩ := hM
  have := hcc 0 u rfl
  have e2 : (Kd.raw 1).sz = 1 := rfl
  rwa [e2, Nat.mul_one] at this
theorem raw_form {w : World} {base eo : Nat} {v : Value} {l : List Value} (h : (Kd.raw 1).R eo w base Any v (l.map (fun v => [v]))) : ∃ A c, v = .slice A l.length c := by
  obtain ⟨A, c, e⟩ := Kd.R_slice h
  rw [List.length_map] at e
  exact ⟨A, c, e⟩
theorem raw_head {w : World} {base eo : Nat} {v : Value} {l : List Value} (h : (Kd.raw 1).R eo w base Any v (l.map (fun v => [v]))) (hp : 0 < l.length) : ∃ g c, v = .slice (some ⟨g, 0, none⟩) l.length c ∧ base ≤ g := by
  obtain ⟨g, c, e, hb, _⟩ := Kd.R_form h (by rw [List.length_map]; exact hp)
  rw [List.length_map] at e
  exact ⟨g, c, e, hb⟩
theorem raw_one (u : Value) (h : u.oneCell' = true) (w : World) (base : Nat) (ok : Nat → Prop) : (Kd.raw 1).M w base ok [u] [u] := by
  refine ⟨rfl, rfl, fun x hx => ?_⟩
  rw [List.mem_singleton] at hx
  subst hx
  exact h
theorem map_snoc (l : List Value) (u : Value) : (l ++ [u]).map (fun v => [v]) = l.map (fun v => [v]) ++ [[u]] := by simp
/-- A row whose first k elements are written. -/
def mkK {α : Type} (y : α) (k : Nat) (xs : List α) : List α := xs.mapIdx (fun j x => if j < k then y else x)
theorem mkK_len {α : Type} (y : α) (k : Nat) (xs : List α) : (mkK y k xs).length = xs.length := List.length_mapIdx
theorem mkK_zero {α : Type} (y : α) (xs : List α) : mkK y 0 xs = xs := by
  apply List.ext_getElem?
  intro j
  simp [mkK, List.getElem?_mapIdx]
theorem mkK_succ {α : Type} (y : α) (k : Nat) (xs : List α) : mkK y (k + 1) xs = (mkK y k xs).set k y := by
  apply List.ext_getElem?
  intro j
  simp only [mkK, List.getElem?_mapIdx, List.getElem?_set, List.length_mapIdx]
  by_cases hjk : k = j
  · subst hjk
    by_cases hj : k < xs.length
    · simp [hj]
    · simp [hj]
  · rw [if_neg hjk]
    by_cases hj : j < xs.length
    · simp only [List.getElem?_eq_getElem hj, Option.map_some]
      have : (j < k + 1) = (j < k) := by
        apply propext
        omega
      simp only [this]
    · simp [hj]

/-- Slices, each with what it reads as. -/
structure Lists {α : Type} (d : Kd α) (w : World) (base te : Nat) (vs : List Value) (cs : List (List α)) : Prop where
  len : vs.length = cs.length
  row : ∀ (j : Nat) (v : Value) (xs : List α), vs[j]? = some v → cs[j]? = some xs → d.R te w base Any v xs
section
variable {α : Type} {d : Kd α} {base te : Nat} {w w1 : World} {vs us : List Value} {cs ds : List (List α)}
theorem Lists.get (h : Lists d w base te vs cs) {j : Nat} (hj : j < cs.length) : ∃ v xs, vs[j]? = some v ∧ cs[j]? = some xs ∧ d.R te w base Any v xs := by
  have h1 := List.getElem?_eq_getElem (l := vs) (i := j) (by rw [h.len]; exact hj)
  have h2 := List.getElem?_eq_getElem hj
  exact ⟨_, _, h1, h2, h.row j _ _ h1 h2⟩
theorem Lists.kept (hE : d.E = []) (h : Lists d w base te vs cs) (hk : ∀ (j : Nat) (v : Value), vs[j]? = some v → ∀ k, v.ownBlock = some k → k < w.heap.size → w1.heap[k]? = w.heap[k]?) : Lists d w1 base te vs cs :=
  ⟨h.len, fun j v xs h1 h2 => R_own_kept hE (h.row j v xs h1 h2) (fun k hb => hk j v h1 k hb (Kd.R_lt (h.row j v xs h1 h2) k hb))⟩
theorem Lists.kt (hE : d.E = []) (h : Lists d w base te vs cs) (hk : KT te w w1) : Lists d w1 base te vs cs := ⟨h.len, fun j v xs h1 h2 => R_kt hE (h.row j v xs h1 h2) hk⟩
theorem Lists.below (h : Lists d w base te vs cs) (hb : Below w.heap.size w w1) : Lists d w1 base te vs cs := ⟨h.len, fun j v xs h1 h2 => Kd.R_below (h.row j v xs h1 h2) hb⟩
/-- One of them was written. -/
theorem Lists.upd (hE : d.E = []) (h : Lists d w base te vs cs) (hp : Parted vs) {i : Nat} {v : Value} {xs' : List α} (hi : vs[i]? = some v) (hg : w.grownBy w1 v.ownBlock) (hn : d.R te w1 base Any v xs') : Lists d w1 base te vs (cs.set i xs') := by
  refine ⟨by rw [List.length_set]; exact h.len, fun j u xs h1 h2 => ?_⟩
  by_cases hij : i = j
  · subst hij
    rw [hi] at h1
    injection h1 with h1
    subst h1
    have hl := (List.getElem?_eq_some_iff.1 hi).1
    rw [List.getElem?_set_self (by rw [← h.len]; exact hl)] at h2
    injection h2 with h2
    subst h2
    exact hn
  · rw [List.getElem?_set_ne hij] at h2
    exact R_other hE (h.row j u xs h1 h2) hg (fun k hk he => hp i j v u hi h1 hij k he hk)
theorem Lists.snoc (h : Lists d w base te vs cs) {v : Value} {xs : List α} (hn : d.R te w base Any v xs) : Lists d w base te (vs ++ [v]) (cs ++ [xs]) := by
  refine ⟨by simp [h.len], fun j u ys h1 h2 => ?_⟩
  by_cases hj : j < vs.length
  · rw [List.getElem?_append_left hj] at h1
    rw [List.getElem?_append_left (by rw [← h.len]; exact hj)] at h2
    exact h.row j u ys h1 h2
  · rw [List.getElem?_append_right (by omega)] at h1
    rw [List.getElem?_append_right (by rw [← h.len]; omega), ← h.len] at h2
    have : j - vs.length = 0 := by
      have := (List.getElem?_eq_some_iff.1 h1).1
      simp at this
      omega
    rw [this] at h1 h2
    injection h1 with h1
    injection h2 with h2
    subst h1 h2
    exact hn
theorem Lists.append (h : Lists d w base te vs cs) (k : Lists d w base te us ds) : Lists d w base te (vs ++ us) (cs ++ ds) := by
  refine ⟨by rw [List.length_append, List.length_append, h.len, k.len], fun j u ys h1 h2 => ?_⟩
  by_cases hj : j < vs.length
  · rw [List.getElem?_append_left hj] at h1
    rw [List.getElem?_append_left (by rw [← h.len]; exact hj)] at h2
    exact h.row j u ys h1 h2
  · rw [List.getElem?_append_right (by omega)] at h1
    rw [List.getElem?_append_right (by rw [← h.len]; omega), ← h.len] at h2
    exact k.row _ u ys h1 h2
theorem Lists.nil : Lists d w base te [] [] := ⟨rfl, fun j v xs h => by simp at h⟩
end
/-- What the lists read as while they are marked, list by list: those ahead of i, and the first k elements of the i-th. -/
def markC {α : Type} (y : Nat → α) (i k : Nat) (c : List (List α)) : List (List α) := c.mapIdx (fun j xs => if j < i then mkK (y j) xs.length xs else if j = i then mkK (y i) k xs else xs)
section
variable {α : Type} (y : Nat → α) (c : List (List α))
theorem markC_len (i k : Nat) : (markC y i k c).length = c.length := List.length_mapIdx
theorem markC_zero : markC y 0 0 c = c := by
  apply List.ext_getElem?
  intro j
  simp only [markC, List.getElem?_mapIdx, Nat.not_lt_zero, if_false, mkK_zero]
  by_cases hj : j < c.length
  · simp [hj]
  · simp [hj]
theorem markC_at (i k : Nat) {xs : List α} (h : c[i]? = some xs) : (markC y i k c)[i]? = some (mkK (y i) k xs) := by
  simp [markC, List.getElem?_mapIdx, h]
theorem markC_next (i : Nat) {xs : List α} (h : c[i]? = some xs) : markC y i xs.length c = markC y (i + 1) 0 c := by
  apply List.ext_getElem?
  intro j
  simp only [markC, List.getElem?_mapIdx]
  by_cases hj : j < c.length
  · simp only [List.getElem?_eq_getElem hj, Option.map_some]
    by_cases hji : j < i
    · rw [if_pos hji, if_pos (by omega)]
    · by_cases he : j = i
      · subst he
        rw [List.getElem?_eq_getElem hj] at h
        injection h with h
        rw [if_neg hji, if_pos rfl, if_pos (by omega), h]
      · rw [if_neg hji, if_neg he, if_neg (by omega)]
        by_cases he2 : j = i + 1
        · rw [if_pos he2, mkK_zero]
        · rw [if_neg he2]
  · simp [hj]
theorem markC_succ (i k : Nat) {xs : List α} (h : c[i]? = some xs) : markC y i (k + 1) c = (markC y i k c).set i ((mkK (y i) k xs).set k (y i)) := by
  apply List.ext_getElem?
  intro j
  have hi := (List.getElem?_eq_some_iff.1 h).1
  simp only [markC, List.getElem?_mapIdx, List.getElem?_set, List.length_mapIdx]
  by_cases hji : i = j
  · subst hji
    rw [h]
    simp [hi, mkK_succ]
  · rw [if_neg hji]
    by_cases hj : j < c.length
    · simp only [List.getElem?_eq_getElem hj, Option.map_some]
      by_cases hlt : j < i
      · rw [if_pos hlt, if_pos hlt]
      · rw [if_neg hlt, if_neg (by omega), if_neg hlt, if_neg (by omega)]
    · simp [hj]
end
theorem markC_bound {α : Type} (y : Nat → α) (c : List (List α)) (i k B : Nat) (h : ∀ xs ∈ c, xs.length ≤ B) : ∀ xs ∈ markC y i k c, xs.length ≤ B := by
  intro xs hx
  obtain ⟨j, hj, rfl⟩ := List.mem_mapIdx.1 hx
  have := h _ (List.getElem_mem hj)
  split
  · rw [mkK_len]; exact this
  · split
    · rw [mkK_len]; exact this
    · exact this
theorem Lists.lt {α : Type} {d : Kd α} {w : World} {base te : Nat} {vs : List Value} {cs : List (List α)} (h : Lists d w base te vs cs) (j : Nat) (v : Value) (hj : vs[j]? = some v) (k : Nat) (hk : v.ownBlock = some k) : k < w.heap.size ∧ base ≤ k := by
  have hl := (List.getElem?_eq_some_iff.1 hj).1
  have hr := h.row j v _ hj (List.getElem?_eq_getElem (by rw [← h.len]; exact hl))
  exact ⟨Kd.R_lt hr k hk, Kd.R_base hr k hk⟩
/-- While the lists grow: the elder ones, and the longer ones. -/
structure Doubles {α : Type} (d : Kd α) (w : World) (base te N0 : Nat) (ol wl : List Value) (F : List (List α)) (ol2 wl2 : List Value) (G : List (List α)) : Prop where
  a : Lists d w base te ol F
  b : Lists d w base te wl F
  c : Lists d w base te ol2 G
  e : Lists d w base te wl2 G
  lo : ∀ (j : Nat) (u : Value), ol2[j]? = some u → (∃ v, ol[j]? = some v ∧ u.ownBlock = v.ownBlock) ∨ ∀ k, u.ownBlock = some k → N0 ≤ k
  lw : ∀ (j : Nat) (u : Value), wl2[j]? = some u → ∀ k, u.ownBlock = some k → N0 ≤ k
  old : ∀ (j : Nat) (v : Value), (ol ++ wl)[j]? = some v → ∀ k, v.ownBlock = some k → k < N0
section
variable {α : Type} {d : Kd α} {base te N0 : Nat} {w w1 : World} {ol wl ol2 wl2 : List Value} {F G : List (List α)}
theorem Doubles.kt (hE : d.E = []) (h : Doubles d w base te N0 ol wl F ol2 wl2 G) (hk : KT te w w1) : Doubles d w1 base te N0 ol wl F ol2 wl2 G :=
  ⟨h.a.kt hE hk, h.b.kt hE hk, h.c.kt hE hk, h.e.kt hE hk, h.lo, h.lw, h.old⟩
theorem snoc_at {β : Type} {l : List β} {x u : β} {j : Nat} (h : (l ++ [x])[j]? = some u) : l[j]? = some u ∨ j = l.length ∧ u = x := by
  by_cases hj : j < l.length
  · rw [List.getElem?_append_left hj] at h
    exact Or.inl h
  · rw [List.getElem?_append_right (by omega)] at h
    have : j - l.length = 0 := by
      have := (List.getElem?_eq_some_iff.1 h).1
      simp at this
      omega
    rw [this] at h
    injection h with h
    exact Or.inr ⟨by omega, h.symm⟩
theorem Doubles.step (hE : d.E = []) (hp : Parted (ol ++ wl)) (h : Doubles d w base te N0 ol wl F ol2 wl2 G) {v l' m' : Value} {xs g : List α} (hv : ol[ol2.length]? = some v) (hx : F[ol2.length]? = some xs)
    (hext : Ext w w1 te d.sz v xs.length) (hl : d.R te w1 base Any l' g) (hm : d.R te w1 base Any m' g) (hsl : l'.ownBlock = v.ownBlock ∨ ∀ k, l'.ownBlock = some k → w.heap.size ≤ k) (hsm : ∀ k, m'.ownBlock = some k → w.heap.size ≤ k) (hN : N0 ≤ w.heap.size) :
    Doubles d w1 base te N0 ol wl F (ol2 ++ [l']) (wl2 ++ [m']) (G ++ [g]) := by
  have hil := (List.getElem?_eq_some_iff.1 hv).1
  have hva : (ol ++ wl)[ol2.length]? = some v := by rw [List.getElem?_append_left hil]; exact hv
  have hvo := h.old _ v hva
  have key : ∀ (u : Value) (zs : List α), d.R te w base Any u zs → (∀ k, u.ownBlock = some k → v.ownBlock ≠ some k) → d.R te w1 base Any u zs := fun u zs hr hn => R_other hE hr hext.grown hn
  have hwl : wl2.length = ol2.length := h.e.len.trans h.c.len.symm
  refine ⟨⟨h.a.len, fun j u zs h1 h2 => ?_⟩, ⟨h.b.len, fun j u zs h1 h2 => ?_⟩, Lists.snoc ⟨h.c.len, fun j u zs h1 h2 => ?_⟩ hl, Lists.snoc ⟨h.e.len, fun j u zs h1 h2 => ?_⟩ hm, fun j u h1 => ?_, fun j u h1 k hk => ?_, h.old⟩
  · by_cases hj : j = ol2.length
    · subst hj
      rw [hv] at h1
      injection h1 with h1
      subst h1
      rw [hx] at h2
      injection h2 with h2
      subst h2
      exact R_stay (h.a.row _ v xs hv hx) hext
    · have hjl := (List.getElem?_eq_some_iff.1 h1).1
      exact key u zs (h.a.row j u zs h1 h2) (fun k hk he => hp _ _ v u hva (by rw [List.getElem?_append_left hjl]; exact h1) (fun e => hj e.symm) k he hk)
  · exact key u zs (h.b.row j u zs h1 h2) (fun k hk he => hp _ (ol.length + j) v u hva (by rw [List.getElem?_append_right (by omega), Nat.add_sub_cancel_left]; exact h1) (by omega) k he hk)
  · have hj2 := (List.getElem?_eq_some_iff.1 h1).1
    refine key u zs (h.c.row j u zs h1 h2) (fun k hk he => ?_)
    rcases h.lo j u h1 with ⟨v2, h3, h4⟩ | h3
    · have hjl := (List.getElem?_eq_some_iff.1 h3).1
      exact hp _ _ v v2 hva (by rw [List.getElem?_append_left hjl]; exact h3) (by omega) k he (h4 ▸ hk)
    · have h5 := h3 k hk
      have h6 := hvo k he
      omega
  · refine key u zs (h.e.row j u zs h1 h2) (fun k hk he => ?_)
    have h5 := h.lw j u h1 k hk
    have h6 := hvo k he
    omega
  · rcases snoc_at h1 with h1 | ⟨rfl, rfl⟩
    · exact h.lo j u h1
    · rcases hsl with hsl | hsl
      · exact Or.inl ⟨v, hv, hsl⟩
      · exact Or.inr (fun k hk => Nat.le_trans hN (hsl k hk))
  · rcases snoc_at h1 with h1 | ⟨rfl, rfl⟩
    · exact h.lw j u h1 k hk
    · exact Nat.le_trans hN (hsm k hk)
end
section
variable {P : Program} {ops : Array Oper} {rest : List Oper} {o : Oper} {a : Act} {Q : Exit → Act → World → Prop} {Kc : Act → World → Prop} {α : Type}
theorem stays_at {W w1 : World} {e size n : Nat} {v v1 : Value} (h : Stays W w1 e size v n v1) : v1.ownBlock = v.ownBlock ∨ ∃ b, v1.ownBlock = some b ∧ W.heap.size ≤ b := by
  rcases h with ⟨p, cap, rfl, rfl, _⟩ | ⟨_, h⟩
  · exact Or.inl rfl
  · exact Or.inr h
/-- append(v, x), x without rows of its own: v's cells stay. -/
theorem R_append_beside (d : Kd α) {W : World} (base : Nat) (hgd : o.guard = none) (s x : Operand) (t e : TypeId) (z : Value) (bytes : Nat)
    (ho : o.op = .call { callee := .builtin .append, args := #[s, x], argTypes := #[t, t] })
    (ht : P.underlying t = some (.slice e)) (hinfo : (P.info? e).map (fun i => (i.zero, i.size, i.bytes)) = some (some z, d.sz, bytes)) (hz : z.cells.size = d.sz) (hs0 : 0 < d.sz) (hb0 : 0 < bytes)
    (v : Value) (xs : List α) (p : α) (cs : List Value) (hs : a.eval s = v) (hx : a.eval x = .slice (some ⟨W.heap.size, 0, none⟩) 1 1) (hp : d.M W base (fun _ => False) p cs)
    (HO : d.R e W base Any v xs) (hbase : base ≤ W.heap.size) (hl : (xs.length + 1) * bytes ≤ 140737488355328)
    (h : ∀ v1 w1, d.R e w1 base Any v1 (xs ++ [p]) → W.grownBy w1 v.ownBlock → Stays W w1 e d.sz v xs.length v1 → wpList P ops Q rest (a.put o.dst v1) w1) :
    wpList P ops Q (o :: rest) a (W.alloc (.cells cs.toArray e)) := by
  obtain ⟨h0, inner, hown, hr⟩ := HO
  refine append_beside base hgd s x t e z d.sz bytes ho ht hinfo hz hs0 hb0 v xs.length inner cs hs hx (d.K_len (d.K_of_M hp)) (d.K_one (d.K_of_M hp)) hown hbase hl ?_
  intro v1 w1 hown1 hg1 hst
  exact h v1 w1 (Kd.R_appended h0 hr hp (fun _ hk => hk.elim) (fun _ _ => trivial) hown1 hg1 (stays_at hst)) hg1 hst
theorem R_append_beside_step (d : Kd α) {W : World} (base : Nat) (hw : Region.wanted o (yielded ops a.tmps) = true) (s x : Operand) (t e : TypeId) (z : Value) (bytes : Nat)
    (ho : o.op = .call { callee := .builtin .append, args := #[s, x], argTypes := #[t, t] })
    (ht : P.underlying t = some (.slice e)) (hinfo : (P.info? e).map (fun i => (i.zero, i.size, i.bytes)) = some (some z, d.sz, bytes)) (hz : z.cells.size = d.sz) (hs0 : 0 < d.sz) (hb0 : 0 < bytes)
    (v : Value) (xs : List α) (p : α) (cs : List Value) (hs : a.eval s = v) (hx : a.eval x = .slice (some ⟨W.heap.size, 0, none⟩) 1 1) (hp : d.M W base (fun _ => False) p cs)
    (HO : d.R e W base Any v xs) (hbase : base ≤ W.heap.size) (hl : (xs.length + 1) * bytes ≤ 140737488355328)
    (h : ∀ v1 w1, d.R e w1 base Any v1 (xs ++ [p]) → W.grownBy w1 v.ownBlock → Stays W w1 e d.sz v xs.length v1 → Kc (a.put o.dst v1) w1) :
    if Region.wanted o (yielded ops a.tmps) = true then Oper.wp P o a (W.alloc (.cells cs.toArray e)) Kc Q else Kc (a.put o.dst undef) (W.alloc (.cells cs.toArray e)) := by
  obtain ⟨h0, inner, hown, hr⟩ := HO
  refine append_beside_step base hw s x t e z d.sz bytes ho ht hinfo hz hs0 hb0 v xs.length inner cs hs hx (d.K_len (d.K_of_M hp)) (d.K_one (d.K_of_M hp)) hown hbase hl ?_
  intro v1 w1 hown1 hg1 hst
  exact h v1 w1 (Kd.R_appended h0 hr hp (fun _ hk => hk.elim) (fun _ _ => trivial) hown1 hg1 (stays_at hst)) hg1 hst
end
theorem ext_other {W w w1 : World} {e size n : Nat} {v : Value} {row : Option Nat} (hx : Ext W w e size v n) (hg : w.grownBy w1 row) (hrow : ∀ k, row = some k → W.heap.size ≤ k) : Ext W w1 e size v n := by
  have hsz := hx.grown.size
  refine ⟨⟨hg.os.trans hx.grown.os, hg.tape.trans hx.grown.tape, hg.output.trans hx.grown.output, Nat.le_trans hsz hg.size, fun k hk hne => ?_⟩, fun b inner hI => ?_⟩
  · refine (hg.block k (by omega) (fun he => ?_)).trans (hx.grown.block k hk hne)
    have := hrow k he.symm
    omega
  · refine (hx.stays b inner hI).kept hg ?_
    cases hv : v.ownBlock with
    | none => exact Or.inl rfl
    | some k =>
      right
      intro he
      have h1 := (hI.lt k hv).2
      have h2 := hrow k he.symm
      omega
/-- While one list and its copy grow: since W only the list's block, behind its end, and what is new. -/
structure Pair2 {α : Type} (d : Kd α) (W w : World) (base te : Nat) (v : Value) (n : Nat) (l' m' : Value) (gl gm : List α) : Prop where
  ext : Ext W w te d.sz v n
  l : d.R te w base Any l' gl
  m : d.R te w base Any m' gm
  side : Side W.heap.size v n l' gl.length
  sm : ∀ k, m'.ownBlock = some k → W.heap.size ≤ k
  ap : ∀ k, l'.ownBlock = some k → m'.ownBlock ≠ some k
section
variable {α : Type} {d : Kd α} {W w w1 : World} {base te n : Nat} {v l' m' l1 m1 : Value} {gl gm : List α} {p : α}
theorem Pair2.stepL (hE : d.E = []) (h : Pair2 d W w base te v n l' m' gl gm) (hr : d.R te w1 base Any l1 (gl ++ [p])) (hg : w.grownBy w1 l'.ownBlock) (hst : Stays w w1 te d.sz l' gl.length l1) : Pair2 d W w1 base te v n l1 m' (gl ++ [p]) gm := by
  obtain ⟨h1, h2⟩ := h.ext.step h.side hg hst
  refine ⟨h1, hr, R_other hE h.m hg (fun k hk he => h.ap k he hk), by rw [List.length_append]; exact h2, h.sm, fun k hk => ?_⟩
  rcases stays_at hst with he | ⟨b, hb, hle⟩
  · exact h.ap k (he ▸ hk)
  · intro hm
    have := Kd.R_lt h.m k hm
    rw [hb] at hk
    injection hk with hk
    omega
theorem Pair2.stepM (hE : d.E = []) (h : Pair2 d W w base te v n l' m' gl gm) (hr : d.R te w1 base Any m1 (gm ++ [p])) (hg : w.grownBy w1 m'.ownBlock) (hat : m1.ownBlock = m'.ownBlock ∨ ∃ b, m1.ownBlock = some b ∧ w.heap.size ≤ b) : Pair2 d W w1 base te v n l' m1 gl (gm ++ [p]) := by
  have hsz := h.ext.grown.size
  refine ⟨ext_other h.ext hg h.sm, R_other hE h.l hg (fun k hk he => h.ap k hk he), hr, h.side, fun k hk => ?_, fun k hk hm => ?_⟩
  · rcases hat with he | ⟨b, hb, hle⟩
    · exact h.sm k (he ▸ hk)
    · rw [hb] at hk
      injection hk with hk
      omega
  · rcases hat with he | ⟨b, hb, hle⟩
    · exact h.ap k hk (he ▸ hm)
    · have := Kd.R_lt h.l k hk
      rw [hb] at hm
      injection hm with hm
      omega
theorem Pair2.sideL (h : Pair2 d W w base te v n l' m' gl gm) : l'.ownBlock = v.ownBlock ∨ ∀ k, l'.ownBlock = some k → W.heap.size ≤ k := by
  rcases h.side with ⟨p, cap, rfl, rfl, _⟩ | h2
  · exact Or.inl rfl
  · exact Or.inr h2
end
theorem Book.setF {w : World} {g base tb eo : Nat} {vo vw : Value} {fr : Int} {ol wl : List Value} (h : Book w g base tb eo vo vw fr ol wl) (hne : eo ≠ tb) (n : Int) : Book (w.setCell ⟨g, 2, none⟩ (.int .i64 n)) g base tb eo vo vw n ol wl :=
  ⟨h.low, (blk_set h.blk 2 _).trans rfl, Kd.R_set h.ro h.blk (by simpa [Kd.raw] using hne) 2 _, Kd.R_set h.rw h.blk (by simpa [Kd.raw] using hne) 2 _, h.ap⟩
/-- The i-th list's k-th element is marked; then its copy's. -/
theorem markO {α : Type} {d : Kd α} {base te : Nat} {w w1 : World} {ol wl : List Value} {cs : List (List α)} {y : Nat → α} {i k : Nat} {v : Value} {xs : List α} (hE : d.E = []) (hp : Parted (ol ++ wl)) (hlen : ol.length = cs.length) (h : Lists d w base te (ol ++ wl) (markC y i k cs ++ markC y i k cs)) (hv : ol[i]? = some v) (hx : cs[i]? = some xs) (hg : w.grownBy w1 v.ownBlock) (hn : d.R te w1 base Any v ((mkK (y i) k xs).set k (y i))) :
    Lists d w1 base te (ol ++ wl) (markC y i (k + 1) cs ++ markC y i k cs) := by
  have hil := (List.getElem?_eq_some_iff.1 hv).1
  have := h.upd hE hp (i := i) (by rw [List.getElem?_append_left hil]; exact hv) hg hn
  rw [List.set_append_left _ _ (by rw [markC_len]; omega), ← markC_succ y cs i k hx] at this
  exact this
theorem markW {α : Type} {d : Kd α} {base te : Nat} {w w1 : World} {ol wl : List Value} {cs : List (List α)} {y : Nat → α} {i k : Nat} {v : Value} {xs : List α} (hE : d.E = []) (hp : Parted (ol ++ wl)) (hlen : ol.length = cs.length) (h : Lists d w base te (ol ++ wl) (markC y i (k + 1) cs ++ markC y i k cs)) (hv : wl[i]? = some v) (hx : cs[i]? = some xs) (hg : w.grownBy w1 v.ownBlock) (hn : d.R te w1 base Any v ((mkK (y i) k xs).set k (y i))) :
    Lists d w1 base te (ol ++ wl) (markC y i (k + 1) cs ++ markC y i (k + 1) cs) := by
  have := h.upd hE hp (i := ol.length + i) (by rw [List.getElem?_append_right (by omega), Nat.add_sub_cancel_left]; exact hv) hg hn
  rw [hlen, List.set_append_right _ _ (by rw [markC_len]; omega), markC_len, Nat.add_sub_cancel_left, ← markC_succ y cs i k hx] at this
  exact this
theorem Lists.left {α : Type} {d : Kd α} {base te : Nat} {w : World} {us vs : List Value} {cs ds : List (List α)} (h : Lists d w base te (us ++ vs) (cs ++ ds)) (hl : us.length = cs.length) : Lists d w base te us cs := by
  refine ⟨hl, fun j v xs h1 h2 => h.row j v xs ?_ ?_⟩
  · rw [List.getElem?_append_left (List.getElem?_eq_some_iff.1 h1).1]; exact h1
  · rw [List.getElem?_append_left (List.getElem?_eq_some_iff.1 h2).1]; exact h2
theorem Lists.right {α : Type} {d : Kd α} {base te : Nat} {w : World} {us vs : List Value} {cs ds : List (List α)} (h : Lists d w base te (us ++ vs) (cs ++ ds)) (hl : us.length = cs.length) : Lists d w base te vs ds := by
  have hl2 := h.len
  rw [List.length_append, List.length_append] at hl2
  refine ⟨by omega, fun j v xs h1 h2 => h.row (us.length + j) v xs ?_ ?_⟩
  · rw [List.getElem?_append_right (by omega), Nat.add_sub_cancel_left]; exact h1
  · rw [List.getElem?_append_right (by omega), hl, Nat.add_sub_cancel_left]; exact h2
end Go.Proofs.Ytmingnhhmaclaaa.Bk
