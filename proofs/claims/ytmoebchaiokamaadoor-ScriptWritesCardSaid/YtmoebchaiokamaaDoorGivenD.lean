/- The library's functions, as this program calls them: strconv.Itoa, Atoi, strings.Split, Builder's WriteString, String. What they ask: the library's tables lie as they were laid; lengths as a Go string's may be. -/
import Derived.Test.YtmoebchaiokamaaDoorPrint0
import Derived.Test.YtmoebchaiokamaaDoorShelf
import Derived.Lib.AppendIntMem
import Derived.OpenShut
import Derived.Lib.Builder
import Derived.Lib.AppendStr
import Derived.Lib.MakeNoZero
import Derived.Laws.Externs
import Derived.Shelf.Strings.Builder1
namespace Go.Proofs.YtmoebchaiokamaaDoor.Given
open Go.RowKit Go.Proofs.YtmoebchaiokamaaDoorW.PrintWords Go.Proofs.YtmoebchaiokamaaDoorW.PrintLast Go.Proofs.YtmoebchaiokamaaDoorW.PrintMore Go.Proofs.YtmoebchaiokamaaDoor.Print
set_option linter.unusedVariables false
set_option linter.unusedSimpArgs false

/-- The library's variables lie as they were laid. -/
def LW (w : World) : Prop := Lib.TabIs Tryd.prog w "internal/strconv.uint64pow10" IntKind.u64 Lib.pow10Tab ∧ (∃ m, w.cell? ⟨1, 0, none⟩ = some (.int .i64 m)) ∧
  (∃ ev, w.cell? ⟨7, 0, none⟩ = some ev ∧ (ev = Value.nilIface ∨ ∃ te pe, ev = Value.iface te pe)) ∧ (∃ ev, w.cell? ⟨8, 0, none⟩ = some ev ∧ (ev = Value.nilIface ∨ ∃ te pe, ev = Value.iface te pe)) ∧ w.cell? ⟨0, 0, none⟩ = some (.iface 89 (.agg #[.pointer (some ⟨9, 44, none⟩)]))
theorem LW.below {w w' : World} (h : LW w) (hb : Below w.heap.size w w') : LW w' := by
  obtain ⟨h1, ⟨m, h2⟩, ⟨e, h3, h3'⟩, ⟨e', h4, h4'⟩, h5⟩ := h
  exact ⟨Lib.tabBelow_of_tabIs h1 w' hb, ⟨m, pw_cell_below hb h2⟩, ⟨e, pw_cell_below hb h3, h3'⟩, ⟨e', pw_cell_below hb h4, h4'⟩, pw_cell_below hb h5⟩
theorem below_grow (w : World) (k : Nat) (os : Array Obj) : Below w.heap.size w («Sort».grow (w.drewN k) os) :=
  ⟨rfl, rfl, rfl, by simp [«Sort».grow, World.drewN], fun j hj => by simp only [«Sort».grow]; exact Array.getElem?_append_left (by simpa [World.drewN] using hj)⟩
def itoaB (n : Int) : ByteArray := ⟨(Lib.itoa n).toArray⟩
theorem itoa_any (n : Int) (h : -9223372036854775808 ≤ n ∧ n ≤ 9223372036854775807) (w : World) (hL : LW w) : Calls Tryd.prog 13 #[.int .i64 n] w fun e w' => e = .returned (.string (itoaB n)) ∧ Below w.heap.size w w' := by
  refine (Tryd.strconv_Itoa n h.1 h.2 w hL.1).mono ?_
  rintro e w' ⟨rfl, k, os, rfl⟩
  exact ⟨rfl, below_grow w k os⟩
theorem size_append (a b : ByteArray) : (a ++ b).size = a.size + b.size := ByteArray.size_append
/-- Rows of no byte and no builder are as they were. -/
def KeptOther (w w' : World) : Prop := ∀ (g : Nat) (cs : Array Value) (T : TypeId), T ≠ 5 → T ≠ 42 → w.heap[g]? = some (.cells cs T (0, 0)) → w'.heap[g]? = some (.cells cs T (0, 0))
theorem infoB : (Tryd.prog.info? 42).map (·.size) = some 2 := by kernel_rfl
theorem liesB : liesAt Tryd.prog Tryd.prog.depth 42 (2 / Tryd.prog.cellsOf 42) 0 42 1 = true := by kernel_rfl
set_option maxRecDepth 100000 in
set_option maxHeartbeats 1000000 in
theorem check_used (b : Nat) (w : World) (c0 : w.cell? ⟨b, 0, none⟩ = some (.pointer (some ⟨b, 0, none⟩))) :
    Calls Tryd.prog 21 #[.pointer (some ⟨b, 0, none⟩)] w fun e w' => e = .returned (.tuple #[]) ∧ w' = w := by
  obtain ⟨j, hj, _⟩ := Option.map_eq_some_iff.1 infoB
  go_enter Tryd.func21, Tryd.ntmps21
  go_wp2
  rw [Lib.run_neq_ptr_same w _ Tryd.underlying39 hj]
  go_wp2
  go_end0
  exact ⟨rfl, rfl⟩
set_option maxRecDepth 100000 in
set_option maxHeartbeats 1000000 in
theorem check_fresh (b : Nat) (w : World) (c0 : w.cell? ⟨b, 0, none⟩ = some (.pointer none)) (hsh : w.shape? b = some (42, 2)) (hfz : w.frozen? ⟨b, 0, none⟩ = false) :
    Calls Tryd.prog 21 #[.pointer (some ⟨b, 0, none⟩)] w fun e w' => e = .returned (.tuple #[]) ∧ w' = w.setCell ⟨b, 0, none⟩ (.pointer (some ⟨b, 0, none⟩)) := by
  obtain ⟨j, hj, hjs⟩ := Option.map_eq_some_iff.1 infoB
  go_enter Tryd.func21, Tryd.ntmps21
  go_wp2
  rw [Lib.run_to_unsafe w ⟨b, 0, none⟩ Tryd.underlying39 Tryd.underlying69 hj (by rw [hjs]; decide) hsh (Nat.zero_lt_succ 1)]
  simp only [Result.andThen]
  rw [Oper.upon_value]
  go_wp2
  rw [run_callFunc_extern Tryd.func30 (by kernel_rfl) (by kernel_rfl) (by kernel_rfl) (e := Extern.AbiNoEscape.same) (by kernel_rfl)]
  rw [Lib.run_noEscape]
  simp only [Result.andThen]
  rw [Oper.upon_value]
  go_wp2
  rw [Lib.run_from_unsafe w ⟨b, 0, none⟩ Tryd.underlying69 Tryd.underlying39 hj hsh liesB]
  simp only [Result.andThen]
  rw [Oper.upon_value]
  go_wp2
  go_end0
  exact ⟨rfl, rfl⟩
theorem check_any (B b : Nat) (bs : List Value) (w : World) (h : Lib.IsBuilder 42 5 B b bs w) :
    Calls Tryd.prog 21 #[.pointer (some ⟨b, 0, none⟩)] w fun e w' => e = .returned (.tuple #[]) ∧ (Lib.BuilderAt 42 5 B b (.pointer (some ⟨b, 0, none⟩)) bs w' ∧ Below B w w' ∧ KeptOther w w') := by
  rcases h with h | h
  · refine (check_fresh b w h.cell0 h.shape h.frozen0).mono ?_
    rintro e w' ⟨rfl, rfl⟩
    obtain ⟨_, _, hbk, _, _⟩ := id h
    exact ⟨rfl, h.used _, (Below.refl B w).setCell (p := ⟨b, 0, none⟩) h.1 _, fun g cs T _ hT hg => blk_far hg (fun e => blk_ne hg hbk hT e) _⟩
  · refine (check_used b w h.cell0).mono ?_
    rintro e w' ⟨rfl, rfl⟩
    exact ⟨rfl, h, Below.refl _ _, fun _ _ _ _ _ hg => hg⟩
theorem infoU8 : (Tryd.prog.info? 5).map (fun i => (i.zero, i.size, i.bytes)) = some (some (.int .u8 0), 1, 1) := by kernel_rfl
set_option maxRecDepth 100000 in
set_option maxHeartbeats 2000000 in
theorem write_any (B b : Nat) (bs : List Value) (s : ByteArray) (w : World) (h : Lib.IsBuilder 42 5 B b bs w) (hlen : bs.length + s.size ≤ 140737488355328) (hBw : B ≤ w.heap.size) :
    Calls Tryd.prog 12 #[.pointer (some ⟨b, 0, none⟩), .string s] w fun e w' => e = .returned (.tuple #[.int .i64 s.size, .nilIface]) ∧ (Lib.BuilderAt 42 5 B b (.pointer (some ⟨b, 0, none⟩)) (bs ++ Lib.strCells s) w' ∧ Below B w w' ∧ KeptOther w w') := by
  obtain ⟨i0, hi, hz0, hz1, hz2⟩ := info_parts infoU8
  go_enter Tryd.func12, Tryd.ntmps12
  go_wp2_with (go_at_call 21; refine (check_any B b bs _ h).mono ?_)
  rintro e w1 ⟨rfl, h1, hb1, hk1⟩
  obtain ⟨hB, v, hbk, hown, hne⟩ := h1
  have c0 : w1.cell? ⟨b, 0, none⟩ = some (.pointer (some ⟨b, 0, none⟩)) := by rw [Lib.cell_of_heap hbk]; rfl
  have c1 : w1.cell? ⟨b, 1, none⟩ = some v := by rw [Lib.cell_of_heap hbk]; rfl
  go_wp2_with (at_builtin; refine Lib.wpList_append_own_string _ rfl _ _ 40 9 rfl B 5 i0 Tryd.underlying40 Tryd.underlying9 hi hz0 hz1 hz2 _ _ _ rfl hown s rfl ?c3 ?c4 ?c5 ?_)
  case c3 => unfold maxLen; omega
  case c4 => omega
  case c5 => have := hb1.size; omega
  intro v' w2 hown' hgrow _
  have hlt : b < w1.heap.size := by
    rcases Nat.lt_or_ge b w1.heap.size with h' | h'
    · exact h'
    · simp [Array.getElem?_eq_none h'] at hbk
  have hb2 : w2.heap[b]? = some (.cells #[.pointer (some ⟨b, 0, none⟩), v] 42 (0, 0)) := by
    rw [hgrow.block b hlt (fun e => hne e.symm)]
    exact hbk
  have d0 : w2.cell? ⟨b, 0, none⟩ = some (.pointer (some ⟨b, 0, none⟩)) := by rw [Lib.cell_of_heap hb2]; rfl
  have d1 : w2.cell? ⟨b, 1, none⟩ = some v := by rw [Lib.cell_of_heap hb2]; rfl
  have f1 : w2.frozen? ⟨b, 1, none⟩ = false := Lib.frozen_of_heap hb2 1
  obtain ⟨ao, n', cap, rfl⟩ : ∃ ao n' cap, v' = .slice ao n' cap := by
    rcases hown'.2 with ⟨hv, _⟩ | ⟨g, cap, cur, hv, _⟩
    · exact ⟨_, _, _, hv⟩
    · exact ⟨_, _, _, hv⟩
  go_wp2
  go_ret2
  refine ⟨rfl, ?_, ?_, ?_⟩
  · exact Lib.BuilderAt.put (T := 42) (e := 5) hB hb2 (bs' := bs ++ Lib.strCells s) (by simpa [Lib.strCells_length] using hown') (by decide)
  · exact (hb1.grown hgrow (by have := hb1.size; omega) (fun k hk => (hown.lt k hk).1)).setCell (p := ⟨b, 1, none⟩) hB _
  · intro g cs T hT5 hT hg
    have hg1 := hk1 g cs T hT5 hT hg
    exact blk_far (blk_grown hg1 hgrow (fun e => Lib.ownBlock_ne hown hg1 hT5 e.symm)) (fun e => blk_ne hg1 hbk hT e) _
theorem builder_below {B b : Nat} {bs : List Value} {w w' : World} (h : Lib.IsBuilder 42 5 B b bs w) (hb : Below w.heap.size w w') : Lib.IsBuilder 42 5 B b bs w' := by
  have key : ∀ p, Lib.BuilderAt 42 5 B b p bs w → Lib.BuilderAt 42 5 B b p bs w' := by
    rintro p ⟨hB, v, hbk, hown, hne⟩
    refine ⟨hB, v, blk_below hbk hb, ⟨hown.1, ?_⟩, hne⟩
    rcases hown.2 with h0 | ⟨g, cap, cur, hv, hBg, hg, r⟩
    · exact .inl h0
    · exact .inr ⟨g, cap, cur, hv, hBg, blk_below hg hb, r⟩
  rcases h with h | h
  · exact .inl (key _ h)
  · exact .inr (key _ h)
theorem strCells_append (a b : ByteArray) : Lib.strCells (a ++ b) = Lib.strCells a ++ Lib.strCells b := by
  simp [Lib.strCells, Lib.byteCells]
/-- WriteString, as Print uses it. -/
theorem write_on (b : Nat) (acc s : ByteArray) (w : World) (h : Lib.IsBuilder 42 5 b b (Lib.strCells acc) w) (hlen : acc.size + s.size ≤ 140737488355328) :
    Calls Tryd.prog 12 #[.pointer (some ⟨b, 0, none⟩), .string s] w fun e w' => e = .returned (.tuple #[.int .i64 s.size, .nilIface]) ∧ (Lib.IsBuilder 42 5 b b (Lib.strCells (acc ++ s)) w' ∧ Below b w w' ∧ KeptOther w w') := by
  have hBw : b ≤ w.heap.size := by
    rcases h with h | h
    · exact Nat.le_of_lt h.lt
    · exact Nat.le_of_lt h.lt
  refine (write_any b b _ s w h (by rw [Lib.strCells_length]; exact hlen) hBw).mono ?_
  rintro e w' ⟨rfl, h1, h2⟩
  exact ⟨rfl, .inr (by rw [strCells_append]; exact h1), h2⟩
def space : ByteArray := ⟨#[32]⟩
def wordsL (s : ByteArray) : List ByteArray := Lib.splitB space 0 (Lib.countB s space) s
def numOf (t : ByteArray) : Option Int := match Lib.atoiAll t.data.toList with
  | .ok v => if (itoaB v).toList = t.toList then some v else none
  | _ => none
def numsIn : List ByteArray → Option (List Int)
  | [] => some []
  | t :: r => match numOf t, numsIn r with
    | some v, some l => some (v :: l)
    | _, _ => none
def readOf (s : ByteArray) : Option (ByteArray × List Int) := (numsIn (wordsL s).tail).map fun l => ((wordsL s).headD ⟨#[]⟩, l)

theorem split_any (s : ByteArray) (n : Nat) (hn : Lib.countB s space = n) (w : World) (hs : s.size < 4294967281) (hL : LW w) :
    Calls Tryd.prog 24 #[.string s, .string ⟨#[32]⟩] w fun e w' => e = .returned (.slice (some ⟨w.heap.size, 0, none⟩) (n + 1 : Nat) (n + 1)) ∧ w'.heap[w.heap.size]? = some (.cells ((wordsL s).map Value.string).toArray 9 (0, 0)) ∧ Below w.heap.size w w' := by
  obtain ⟨m, hm⟩ := hL.2.1
  refine (Tryd.strings_Split s space m w hs hm (by decide)).mono ?_
  rintro e w' ⟨rfl, rfl⟩
  exact ⟨by rw [hn], blk_new _ _, below_alloc (Below.refl _ _) _⟩
theorem words_length (s : ByteArray) (n : Nat) (hn : Lib.countB s space = n) : (wordsL s).length = n + 1 := by
  rw [wordsL, hn]
  exact Lib.splitB_all space (by decide) 0 n s hn
/-- strconv.Atoi, as read uses it. -/
theorem atoi_good (t : ByteArray) (v : Int) (h : numOf t = some v) (w : World) (hsz : t.size ≤ 281474976710656) :
    Calls Tryd.prog 51 #[.string t] w fun e w' => e = .returned (.tuple #[.int .i64 v, .nilIface]) ∧ Below w.heap.size w w' := by
  unfold numOf at h
  split at h
  · rename_i v' hv
    split at h
    · injection h with h
      subst h
      refine (Tryd.strconv_Atoi_ok t (by omega) v' hv w).mono ?_
      rintro e w' ⟨rfl, h | ⟨u, h⟩⟩
      · exact ⟨rfl, h ▸ Below.refl _ _⟩
      · exact ⟨rfl, h ▸ bytes_below (Below.refl _ _) (Nat.le_refl _) 5 u⟩
    · cases h
  · cases h

theorem numOf_some {t : ByteArray} {v : Int} (h : numOf t = some v) : (-9223372036854775808 ≤ v ∧ v ≤ 9223372036854775807) ∧ (itoaB v).toList = t.toList := by
  unfold numOf at h
  split at h
  · rename_i v' hv
    split at h
    · rename_i hq
      injection h with h
      subst h
      exact ⟨Lib.atoiAll_bounds hv, hq⟩
    · cases h
  · cases h
theorem splitB_size (sep : ByteArray) : ∀ (k : Nat) (s t : ByteArray), t ∈ Lib.splitB sep 0 k s → t.size ≤ s.size
  | 0, s, t, h => by
    simp only [Lib.splitB, List.mem_singleton] at h
    exact h ▸ Nat.le_refl _
  | k + 1, s, t, h => by
    rw [Lib.splitB] at h
    split at h
    · simp only [List.mem_singleton] at h
      exact h ▸ Nat.le_refl _
    · rcases List.mem_cons.1 h with rfl | h
      · rw [ByteArray.size_extract]; omega
      · refine Nat.le_trans (splitB_size sep k _ t h) ?_
        rw [ByteArray.size_extract]; omega
theorem word_size (s t : ByteArray) (h : t ∈ wordsL s) : t.size ≤ s.size := splitB_size _ _ s t h
theorem count_le (s : ByteArray) : Lib.countB s space ≤ s.size := Lib.countB_le space (by decide) s.size s (Nat.le_refl _)
theorem nums_get : ∀ (l : List ByteArray) (ns : List Int), numsIn l = some ns → ns.length = l.length ∧ ∀ (k : Nat) (t : ByteArray), l[k]? = some t → ∃ v, numOf t = some v ∧ ns[k]? = some v
  | [], ns, h => by
    injection h with h
    subst h
    exact ⟨rfl, fun k t hk => by simp at hk⟩
  | a :: r, ns, h => by
    unfold numsIn at h
    split at h
    · rename_i v l hv hl
      injection h with h
      subst h
      obtain ⟨h1, h2⟩ := nums_get r l hl
      refine ⟨by simp [h1], fun k t hk => ?_⟩
      cases k with
      | zero =>
        injection hk with hk
        subst hk
        exact ⟨v, hv, rfl⟩
      | succ k => exact h2 k t hk
    · cases h

theorem atoi_bad (t : ByteArray) (h : numOf t = none) (w : World) (hL : LW w) (hsz : t.size ≤ 281474976710656) :
    Calls Tryd.prog 51 #[.string t] w fun e w' => ∃ (v : Int) (er : Value), e = .returned (.tuple #[.int .i64 v, er]) ∧ ((∃ a, er = .iface 127 (.pointer (some a))) ∨ er = .nilIface ∧ (-9223372036854775808 ≤ v ∧ v ≤ 9223372036854775807) ∧ ((itoaB v).toList == t.toList) = false) ∧ Below w.heap.size w w' := by
  unfold numOf at h
  split at h
  · rename_i v hv
    split at h
    · cases h
    · rename_i hq
      refine (Tryd.strconv_Atoi_ok t (by omega) v hv w).mono ?_
      rintro e w' ⟨rfl, h | ⟨u, h⟩⟩
      · exact ⟨v, _, rfl, .inr ⟨rfl, Lib.atoiAll_bounds hv, by simpa using hq⟩, h ▸ Below.refl _ _⟩
      · exact ⟨v, _, rfl, .inr ⟨rfl, Lib.atoiAll_bounds hv, by simpa using hq⟩, h ▸ bytes_below (Below.refl _ _) (Nat.le_refl _) 5 u⟩
  · rename_i hne
    cases hq : Lib.atoiAll t.data.toList
    · exact absurd hq (hne _)
    · obtain ⟨ev, hv, hev⟩ := hL.2.2.1
      refine (Tryd.strconv_Atoi_syntax t hsz hq ev w hv hev).mono ?_
      rintro e w' ⟨N, rfl, _, _, hb⟩
      exact ⟨_, _, rfl, .inl ⟨_, rfl⟩, hb⟩
    · obtain ⟨ev, hv, hev⟩ := hL.2.2.2.1
      refine (Tryd.strconv_Atoi_range t hsz hq ev w hv hev).mono ?_
      rintro e w' ⟨N, rfl, _, _, hb⟩
      exact ⟨_, _, rfl, .inl ⟨_, rfl⟩, hb⟩
end Go.Proofs.YtmoebchaiokamaaDoor.Given
