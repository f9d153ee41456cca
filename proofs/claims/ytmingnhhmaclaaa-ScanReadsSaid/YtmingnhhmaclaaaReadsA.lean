/- What the walk of ScanReads leans on: same at equal lists, which blocks a step keeps, a row of bytes known whole, slices apart. -/
import Derived.Test.YtmingnhhmaclaaaBookC
import Derived.Test.YtmingnhhmaclaaaPlainE
import Derived.Test.YtmingnhhmaclaaaGivenV
import Derived.Laws.MakeOwn
import Derived.Laws.CopyOwn
import Derived.Lib.SlBuf
import Derived.Lib.BufferWrite
namespace Go.Proofs.Ytmingnhhmaclaaa.Bk
open Go.RowKit Go.Proofs.YtmingnhhmaclaaaW.PrintWords Go.Proofs.YtmingnhhmaclaaaW.PrintLast Go.Proofs.YtmingnhhmaclaaaW.PrintMore Go.Proofs.Ytmingnhhmaclaaa.Print Go.Proofs.Ytmingnhhmaclaaa.Given
set_option linter.unusedVariables false
set_option linter.unusedSimpArgs false

theorem sameT_loop (l : List S40) (hl : l.length ≤ 4611686018427387904) : ∀ (n : Nat) (i : Int), 0 ≤ i → (l.length : Int) - i ≤ n → squintlaw01_same.l0 (n + 1) l l i = some true
  | 0, i, h0, h => by
    unfold squintlaw01_same.l0
    rw [if_neg (by omega)]
  | n + 1, i, h0, h => by
    unfold squintlaw01_same.l0
    by_cases hi : i < (l.length : Int)
    · rw [if_pos hi, if_pos h0, if_pos hi, if_neg (by simp), show wrap64 (i + 1) = i + 1 by simp only [wrap64]; omega]
      exact sameT_loop l hl n _ (by omega) (by omega)
    · rw [if_neg hi]
theorem sameT_self (l : List S40) (hl : l.length ≤ 4611686018427387904) : ∃ k, squintlaw01_same.f k l l = some true := by
  refine ⟨l.length + 1, ?_⟩
  unfold squintlaw01_same.f
  rw [if_pos rfl]
  exact sameT_loop l hl l.length 0 (by omega) (by omega)

/-- All blocks below a base, and all of other types than the book's, are as they were. -/
def Fr (base : Nat) (w w1 : World) : Prop := Below base w w1 ∧ KX w w1
theorem Fr.refl (base : Nat) (w : World) : Fr base w w := ⟨Below.refl _ _, fun t _ _ => KT.refl t w⟩
theorem Fr.trans {base : Nat} {w w1 w2 : World} (h : Fr base w w1) (k : Fr base w1 w2) : Fr base w w2 := ⟨h.1.trans k.1, fun t h1 h2 => (h.2 t h1 h2).trans (k.2 t h1 h2)⟩
theorem Fr.below {base : Nat} {w w1 : World} (h : Below w.heap.size w w1) (hb : base ≤ w.heap.size) : Fr base w w1 := ⟨h.mono hb, fun t _ _ => KT.below h⟩
theorem Fr.then_ {base : Nat} {w w1 w2 : World} (h : Fr base w w1) (hb : base ≤ w.heap.size) (k : Below w1.heap.size w1 w2) : Fr base w w2 := h.trans (Fr.below k (Nat.le_trans hb h.1.size))
theorem Fr.size {base : Nat} {w w1 : World} (h : Fr base w w1) : w.heap.size ≤ w1.heap.size := h.1.size
theorem Fr.blk {base g : Nat} {t : TypeId} {w w1 : World} {cs : Array Value} (h : Fr base w w1) (hb : w.heap[g]? = some (.cells cs t (0, 0))) (h1 : t ≠ 31) (h2 : t ≠ 30) : w1.heap[g]? = some (.cells cs t (0, 0)) := h.2 t h1 h2 g cs hb
theorem Fr.R {base b : Nat} {w w1 : World} {v : Value} {xs : List S40} (h : Fr base w w1) (hr : Kd.R k40 40 w b Any v xs) : Kd.R k40 40 w1 b Any v xs := R_kt rfl hr (h.2 40 (by decide) (by decide))
theorem Fr.C {α : Type} {d : Kd α} {w w1 : World} {A : Option Addr} {n : Nat} {xs : List α} (h : Fr w.heap.size w w1) (hr : Kd.C d w A n xs) : Kd.C d w1 A n xs := Kd.C_below hr h.1

/-- The cells of a row of bytes. -/
def ownB (L : List Int) : List Value := L.map (fun c => Value.int .u8 c)
theorem ownB_len (L : List Int) : (ownB L).length = L.length := List.length_map _
theorem ownB_C {w : World} {g n : Nat} {L : List Int} (h : w.heap[g]? = some (.cells (ownB L).toArray 5 (0, 0))) (hn : n ≤ L.length) (hm : L.length ≤ 9223372036854775807) : Kd.C (Kd.int .u8) w (some ⟨g, 0, none⟩) (L.take n).length (L.take n) := by
  refine Kd.C_of_reads (d := (0 : Int)) (h1 := fun _ => rfl) ?_
  have hl : (L.take n).length = n := by rw [List.length_take]; omega
  refine ⟨rfl, by omega, fun _ => ⟨_, rfl, fun j hj => ?_⟩⟩
  have hj2 : j < n := by omega
  have e0 : (⟨g, 0, none⟩ : Addr).add j = ⟨g, j, none⟩ := by simp [Addr.add]; omega
  rw [e0, blk_cell h]
  rw [List.getElem?_toArray, ownB, List.getElem?_map, List.getD_eq_getElem?_getD, List.getElem?_take, if_pos hj2, List.getElem?_eq_getElem (by omega)]
  rfl
theorem ownB_full {w : World} {g : Nat} {L : List Int} (h : w.heap[g]? = some (.cells (ownB L).toArray 5 (0, 0))) (hm : L.length ≤ 9223372036854775807) : Kd.C (Kd.int .u8) w (some ⟨g, 0, none⟩) L.length L := by
  have := ownB_C (n := L.length) h (Nat.le_refl _) hm
  rwa [List.take_length] at this
theorem made_own (n : Nat) : madeCells #[.int .u8 0] n = (ownB (List.replicate n 0)).toArray := by
  apply Array.ext_getElem?
  intro i
  simp [madeCells, ownB]
  by_cases hi : i < n
  · simp [hi, Nat.mod_one]
  · simp [hi]
theorem make_own (w : World) (n : Nat) (hn : n ≤ 140737488355328) : (Instr.makeSlice 26 (.int .i64 (n : Int)) (.int .i64 (n : Int))).run Try.prog w = .ok (.slice (some ⟨w.heap.size, 0, none⟩) n n) (w.alloc (.cells (ownB (List.replicate n 0)).toArray 5)) := by
  obtain ⟨i, hi, hz, hs, hb⟩ := info_parts info5
  have h := run_make (P := Try.prog) w 26 5 i _ Try.underlying26 hi hz .i64 .i64 (n : Int) (n : Int) (by omega) (Int.le_refl _) (by rw [hb]; omega) (by omega)
  rw [Int.toNat_natCast, hs, Nat.mul_one] at h
  rw [h, ← made_own]
  rfl
/-- A slice's own blocks lie from one number on, below another. -/
def Span (a b : Nat) (v : Value) : Prop := ∀ k, v.ownBlock = some k → a ≤ k ∧ k < b
theorem Span.of {base : Nat} {w : World} {v : Value} {xs : List S40} (h : Kd.R k40 40 w base Any v xs) : Span base w.heap.size v := fun k hk => ⟨by
    obtain ⟨_, inner, ho, _⟩ := h
    exact own_base ho k hk, Kd.R_lt h k hk⟩
theorem Span.ne {a b c d : Nat} {u v : Value} (h : Span a b u) (k : Span c d v) (hne : b ≤ c ∨ d ≤ a) : ∀ q, u.ownBlock = some q → v.ownBlock ≠ some q := fun q hq hv => by
  have h1 := h q hq
  have h2 := k q hv
  omega
def Apart (u v : Value) : Prop := ∀ q, u.ownBlock = some q → v.ownBlock ≠ some q
theorem Apart.symm {u v : Value} (h : Apart u v) : Apart v u := fun q hq hv => h q hv hq
theorem parted_of {l : List Value} (h : l.Pairwise Apart) : Parted l := by
  intro p q u v hp hq hne
  rcases Nat.lt_or_ge p q with hlt | hge
  · have := List.pairwise_iff_getElem.1 h p q (List.getElem?_eq_some_iff.1 hp).1 (List.getElem?_eq_some_iff.1 hq).1 hlt
    rw [(List.getElem?_eq_some_iff.1 hp).2, (List.getElem?_eq_some_iff.1 hq).2] at this
    exact this
  · have := List.pairwise_iff_getElem.1 h q p (List.getElem?_eq_some_iff.1 hq).1 (List.getElem?_eq_some_iff.1 hp).1 (by omega)
    rw [(List.getElem?_eq_some_iff.1 hp).2, (List.getElem?_eq_some_iff.1 hq).2] at this
    exact this.symm
/-- The law's swap of ' ' and '+'. -/
def sw (c : Int) : Int := if c = 32 then 43 else if c = 43 then 32 else c
def swB (L : List Int) (k : Nat) : List Int := (L.take k).map sw ++ L.drop k
theorem swB_zero (L : List Int) : swB L 0 = L := by simp [swB]
theorem swB_len (L : List Int) (k : Nat) : (swB L k).length = L.length := by
  unfold swB
  rw [List.length_append, List.length_map, List.length_take, List.length_drop]
  omega
theorem swB_get (L : List Int) (k : Nat) (hk : k < L.length) : (swB L k)[k]? = some L[k] := by
  unfold swB
  have h : ((L.take k).map sw).length = k := by rw [List.length_map, List.length_take]; omega
  rw [List.getElem?_append_right (by omega), h, Nat.sub_self, List.getElem?_drop, Nat.add_zero, List.getElem?_eq_getElem hk]
theorem swB_succ (L : List Int) (k : Nat) (hk : k < L.length) : swB L (k + 1) = (L.take k).map sw ++ sw L[k] :: L.drop (k + 1) := by
  unfold swB
  rw [List.take_succ_eq_append_getElem hk, List.map_append, List.append_assoc]
  rfl
theorem swB_set (L : List Int) (k : Nat) (hk : k < L.length) (u : Int) (hu : u = sw L[k]) : (ownB (swB L k)).toArray.setIfInBounds k (.int .u8 u) = (ownB (swB L (k + 1))).toArray := by
  have h : ((L.take k).map sw).length = k := by rw [List.length_map, List.length_take]; omega
  rw [List.setIfInBounds_toArray, swB_succ L k hk, hu]
  unfold ownB
  congr 1
  have e : swB L k = (L.take k).map sw ++ L[k] :: L.drop (k + 1) := by
    unfold swB
    rw [List.drop_eq_getElem_cons hk]
  have h2 : (((L.take k).map sw).map (fun c => Value.int .u8 c)).length = k := by rw [List.length_map, h]
  rw [e, List.map_append, List.map_append, List.set_append_right _ _ (by omega), h2, Nat.sub_self]
  rfl
theorem swB_same (L : List Int) (k : Nat) (hk : k < L.length) (hs : sw L[k] = L[k]) : swB L (k + 1) = swB L k := by
  rw [swB_succ L k hk, hs]
  unfold swB
  rw [List.drop_eq_getElem_cons hk]
theorem sw_bytes (l : List Int) (h : Bytes l) : Bytes (l.map sw) := by
  intro c hc
  obtain ⟨x, hx, rfl⟩ := List.mem_map.1 hc
  have := h x hx
  unfold sw
  split
  · omega
  · split <;> omega
/-- All blocks below a base, and all that are not of bytes, are as they were. -/
def Fo (e : TypeId) (base : Nat) (w w1 : World) : Prop := Below base w w1 ∧ ∀ t, t ≠ e → KT t w w1
theorem Fo.refl (e : TypeId) (base : Nat) (w : World) : Fo e base w w := ⟨Below.refl _ _, fun t _ => KT.refl t w⟩
theorem Fo.trans {e : TypeId} {base : Nat} {w w1 w2 : World} (h : Fo e base w w1) (k : Fo e base w1 w2) : Fo e base w w2 := ⟨h.1.trans k.1, fun t ht => (h.2 t ht).trans (k.2 t ht)⟩
theorem Fo.below {e : TypeId} {base : Nat} {w w1 : World} (h : Below w.heap.size w w1) (hb : base ≤ w.heap.size) : Fo e base w w1 := ⟨h.mono hb, fun t _ => KT.below h⟩
theorem Fo.set {e : TypeId} {base g : Nat} {w w1 : World} {cs : Array Value} (h : Fo e base w w1) (hb : w1.heap[g]? = some (.cells cs e (0, 0))) (hg : base ≤ g) (j : Nat) (u : Value) : Fo e base w (w1.setCell ⟨g, j, none⟩ u) := ⟨below_setG h.1 hg j u, fun t ht => (h.2 t ht).trans (KT.set hb ht j u)⟩
theorem KT.row {t e : TypeId} {w : World} {g : Nat} {cs : Array Value} (hb : w.heap[g]? = some (.cells cs e (0, 0))) (ht : t ≠ e) (cs1 : Array Value) : KT t w (w.setRow g cs1) := fun k ds hk => (setRow_other w g k cs1 (fun he => by
  subst he
  rw [hk] at hb
  injection hb with hb
  injection hb with _ h2
  exact ht h2)).trans hk
theorem Fo.row {e : TypeId} {base g : Nat} {w w1 : World} {cs : Array Value} (h : Fo e base w w1) (hb : w1.heap[g]? = some (.cells cs e (0, 0))) (hg : base ≤ g) (cs1 : Array Value) : Fo e base w (w1.setRow g cs1) := ⟨below_setRow h.1 hg cs1, fun t ht => (h.2 t ht).trans (KT.row hb ht cs1)⟩
theorem Fo.blk {e t : TypeId} {base g : Nat} {w w1 : World} {cs : Array Value} (h : Fo e base w w1) (hb : w.heap[g]? = some (.cells cs t (0, 0))) (ht : t ≠ e) : w1.heap[g]? = some (.cells cs t (0, 0)) := h.2 t ht g cs hb
theorem Fo.R {e : TypeId} {base b : Nat} {w w1 : World} {v : Value} {xs : List S40} (h : Fo e base w w1) (he : 40 ≠ e) (hr : Kd.R k40 40 w b Any v xs) : Kd.R k40 40 w1 b Any v xs := R_kt rfl hr (h.2 40 he)
theorem Fo.bk {e : TypeId} {base gh b : Nat} {w w1 : World} {vo vw : Value} {fr : Int} {ol wl : List Value} (h : Fo e base w w1) (h1 : 30 ≠ e) (h2 : 31 ≠ e) (hb : BkAt w gh b vo vw fr ol wl) : BkAt w1 gh b vo vw fr ol wl := hb.kt (h.2 30 h1) (h.2 31 h2)
theorem okS_not {w : World} {gh base g : Nat} {vo vw : Value} {fr : Int} {ol wl all : List Value} {cs : List (List S40)} {t : TypeId} {ds : Array Value} (h : BkAt w gh base vo vw fr ol wl) (hl : Lists k40 w base 40 all cs) (hg : w.heap[g]? = some (.cells ds t (0, 0))) (h1 : t ≠ 30) (h2 : t ≠ 31) (h3 : t ≠ 40) : ¬ okS gh vo vw all g := by
  have ty : ∀ (e : TypeId) (es : Array Value), w.heap[g]? = some (.cells es e (0, 0)) → t = e := fun e es he => by
    rw [hg] at he
    injection he with he
    injection he with _ he
  rintro (rfl | hk | hk | ⟨j, v, hj, hk⟩)
  · exact h1 (ty _ _ h.blk)
  · obtain ⟨es, he⟩ := Kd.R_typed h.ro g hk
    exact h2 (ty _ _ he)
  · obtain ⟨es, he⟩ := Kd.R_typed h.rw g hk
    exact h2 (ty _ _ he)
  · have hj2 := (List.getElem?_eq_some_iff.1 hj).1
    obtain ⟨xs, hx⟩ : ∃ xs, cs[j]? = some xs := ⟨_, List.getElem?_eq_getElem (by rw [← hl.len]; exact hj2)⟩
    obtain ⟨es, he⟩ := Kd.R_typed (hl.row j v xs hj hx) g hk
    exact h3 (ty _ _ he)
theorem okS_base {w : World} {gh base : Nat} {vo vw : Value} {fr : Int} {ol wl all : List Value} {cs : List (List S40)} (h : BkAt w gh base vo vw fr ol wl) (hl : Lists k40 w base 40 all cs) : ∀ k, okS gh vo vw all k → base ≤ k := by
  rintro k (rfl | hk | hk | ⟨j, v, hj, hk⟩)
  · exact h.low
  · obtain ⟨_, inner, ho, _⟩ := h.ro
    exact own_base ho k hk
  · obtain ⟨_, inner, ho, _⟩ := h.rw
    exact own_base ho k hk
  · exact (hl.lt j v hj k hk).2
end Go.Proofs.Ytmingnhhmaclaaa.Bk
