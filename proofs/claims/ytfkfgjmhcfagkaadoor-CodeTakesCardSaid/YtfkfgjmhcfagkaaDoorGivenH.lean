/- The contract of code.read: a line's word and numbers. -/
import Derived.Test.YtfkfgjmhcfagkaaDoorGivenG
namespace Go.Proofs.YtfkfgjmhcfagkaaDoor.Given
open Go.RowKit Go.Proofs.YtfkfgjmhcfagkaaDoorW.PrintWords Go.Proofs.YtfkfgjmhcfagkaaDoorW.PrintLast Go.Proofs.YtfkfgjmhcfagkaaDoorW.PrintMore Go.Proofs.YtfkfgjmhcfagkaaDoor.Print
set_option linter.unusedVariables false
set_option linter.unusedSimpArgs false

def space : ByteArray := ⟨#[32]⟩
def wordsL (s : ByteArray) : List ByteArray := Lib.splitB space 0 (Lib.countB s space) s
def numOf (t : ByteArray) : Option Int := match Lib.atoiAll t.data.toList with
  | .ok v => if (itoaB v).toList = t.toList then some v else none
  | _ => none
def numsIn : List ByteArray → Option (List Int)
  | [] => some []
  | t :: r => match numOf t, numsIn r with
    | some v, some l => some (v :: l)
    | _, _ => none
def readOf (s : ByteArray) : Option (ByteArray × List Int) := (numsIn (wordsL s).tail).map fun l => ((wordsL s).headD ⟨#[]⟩, l)

theorem split_any (s : ByteArray) (n : Nat) (hn : Lib.countB s space = n) (w : World) (hs : s.size < 4294967281) (hL : LW w) :
    Calls Tryd.prog 69 #[.string s, .string ⟨#[32]⟩] w fun e w' => e = .returned (.slice (some ⟨w.heap.size, 0, none⟩) (n + 1 : Nat) (n + 1)) ∧ w'.heap[w.heap.size]? = some (.cells ((wordsL s).map Value.string).toArray 9 (0, 0)) ∧ Below w.heap.size w w' := by
  obtain ⟨m, hm⟩ := hL.2.1
  refine (Tryd.strings_Split s space m w hs hm (by decide)).mono ?_
  rintro e w' ⟨rfl, rfl⟩
  exact ⟨by rw [hn], blk_new _ _, below_alloc (Below.refl _ _) _⟩
theorem words_length (s : ByteArray) (n : Nat) (hn : Lib.countB s space = n) : (wordsL s).length = n + 1 := by
  rw [wordsL, hn]
  exact Lib.splitB_all space (by decide) 0 n s hn
/-- strconv.Atoi, as read uses it. -/
theorem atoi_good (t : ByteArray) (v : Int) (h : numOf t = some v) (w : World) (hsz : t.size ≤ 281474976710656) :
    Calls Tryd.prog 70 #[.string t] w fun e w' => e = .returned (.tuple #[.int .i64 v, .nilIface]) ∧ Below w.heap.size w w' := by
  unfold numOf at h
  split at h
  · rename_i v' hv
    split at h
    · injection h with h
      subst h
      refine (Tryd.strconv_Atoi_ok t (by omega) v' hv w).mono ?_
      rintro e w' ⟨rfl, h | ⟨u, h⟩⟩
      · exact ⟨rfl, h ▸ Below.refl _ _⟩
      · exact ⟨rfl, h ▸ bytes_below (Below.refl _ _) (Nat.le_refl _) 5 u⟩
    · cases h
  · cases h

theorem numOf_some {t : ByteArray} {v : Int} (h : numOf t = some v) : (-9223372036854775808 ≤ v ∧ v ≤ 9223372036854775807) ∧ (itoaB v).toList = t.toList := by
  unfold numOf at h
  split at h
  · rename_i v' hv
    split at h
    · rename_i hq
      injection h with h
      subst h
      exact ⟨Lib.atoiAll_bounds hv, hq⟩
    · cases h
  · cases h
theorem splitB_size (sep : ByteArray) : ∀ (k : Nat) (s t : ByteArray), t ∈ Lib.splitB sep 0 k s → t.size ≤ s.size
  | 0, s, t, h => by
    simp only [Lib.splitB, List.mem_singleton] at h
    exact h ▸ Nat.le_refl _
  | k + 1, s, t, h => by
    rw [Lib.splitB] at h
    split at h
    · simp only [List.mem_singleton] at h
      exact h ▸ Nat.le_refl _
    · rcases List.mem_cons.1 h with rfl | h
      · rw [ByteArray.size_extract]; omega
      · refine Nat.le_trans (splitB_size sep k _ t h) ?_
        rw [ByteArray.size_extract]; omega
theorem word_size (s t : ByteArray) (h : t ∈ wordsL s) : t.size ≤ s.size := splitB_size _ _ s t h
theorem count_le (s : ByteArray) : Lib.countB s space ≤ s.size := Lib.countB_le space (by decide) s.size s (Nat.le_refl _)
theorem nums_get : ∀ (l : List ByteArray) (ns : List Int), numsIn l = some ns → ns.length = l.length ∧ ∀ (k : Nat) (t : ByteArray), l[k]? = some t → ∃ v, numOf t = some v ∧ ns[k]? = some v
  | [], ns, h => by
    injection h with h
    subst h
    exact ⟨rfl, fun k t hk => by simp at hk⟩
  | a :: r, ns, h => by
    unfold numsIn at h
    split at h
    · rename_i v l hv hl
      injection h with h
      subst h
      obtain ⟨h1, h2⟩ := nums_get r l hl
      refine ⟨by simp [h1], fun k t hk => ?_⟩
      cases k with
      | zero =>
        injection hk with hk
        subst hk
        exact ⟨v, hv, rfl⟩
      | succ k => exact h2 k t hk
    · cases h

set_option maxRecDepth 100000 in
set_option maxHeartbeats 4000000 in
theorem read_some (s : ByteArray) (n : Nat) (hn : Lib.countB s space = n + 1) (wd : ByteArray) (ns : List Int) (w : World) (hs : s.size < 4294967281) (hL : LW w) (h : readOf s = some (wd, ns)) :
    Calls Tryd.prog 61 #[.string s] w fun e w' => ∃ v, e = .returned (.tuple #[.string wd, v, .bool true]) ∧ Kd.R (Kd.int .i64) 3 w' w.heap.size (fun _ => True) v ns ∧ Below w.heap.size w w' := by
  have HL := Aside0.mk hL
  have HN := Aside0.mk hn
  have HH := Aside0.mk h
  clear hL hn h
  go_enter Tryd.func61, Tryd.ntmps61
  go_wp2_with (go_at_call 69; refine (split_any s (n + 1) HN.out _ hs HL.out).mono ?_; rintro e w1 ⟨rfl, hbk, hb⟩; have BK := Aside0.mk hbk; have HB := Aside0.mk hb; clear hbk hb)
  obtain ⟨ws, hws⟩ : ∃ ws, ws = wordsL s := ⟨_, rfl⟩
  have hlen := words_length s (n + 1) HN.out
  have hh := HH.out
  unfold readOf at hh
  rw [← hws] at hh hlen BK
  obtain ⟨l0, hl0, hl1⟩ := Option.map_eq_some_iff.1 hh
  injection hl1 with hw hl1
  subst hl1
  obtain ⟨hnl, hnum⟩ := nums_get _ _ hl0
  have hnl : l0.length = n + 1 := by rw [hnl]; simp [hlen]
  have HNUM := Aside0.mk hnum
  have HNL := Aside0.mk hnl
  have HW := Aside0.mk hw
  have HLEN := Aside0.mk hlen
  have HSZ : Aside0 (∀ t ∈ ws, t.size ≤ 281474976710656) := ⟨fun t ht => by
    rw [hws] at ht
    exact Nat.le_trans (word_size s t ht) (by omega)⟩
  have HNS : Aside0 (n + 1 ≤ 4294967281) := ⟨by
    have := count_le s
    rw [HN.out] at this
    omega⟩
  clear hws hlen hh hl0 hw hnl hnum HH
  go_loopw [6, 16] (fun v6 i wr => ∃ k : Nat, i = .int .i64 k ∧ k ≤ n + 1 ∧ Aside0 (Kd.R (Kd.int .i64) 3 wr w1.heap.size (fun _ => True) v6 (l0.take k)) ∧ Aside0 (Below w1.heap.size w1 wr)) (fun _ i _ => n + 1 - (intOf i).toNat)
  case atStart => exact ⟨0, rfl, by omega, ⟨Kd.R_nil _ _ _ _ _⟩, ⟨Below.refl _ _⟩⟩
  case round =>
    obtain ⟨k, rfl, hk, HO, HB1⟩ := hrel
    have hns := HNS.out
    by_cases hlt : k < n + 1
    · obtain ⟨t, ht⟩ : ∃ t, ws[k + 1]? = some t := ⟨_, List.getElem?_eq_getElem (by rw [HLEN.out]; omega)⟩
      obtain ⟨v, hv, hv2⟩ := HNUM.out k t (by rw [List.getElem?_tail]; exact ht)
      have x0 : wr.cell? ⟨w.heap.size, 1 + k, none⟩ = some (.string t) := by
        rw [blk_cell (blk_below BK.out HB1.out) (1 + k), Nat.add_comm 1 k]
        simp [ht]
      have HV := Aside0.mk hv
      have hq : ((itoaB v).toList == t.toList) = true := by simpa using (numOf_some hv).2
      have HQ := Aside0.mk (numOf_some hv).1
      have HT2 : Aside0 (l0.take (k + 1) = l0.take k ++ [v]) := ⟨by rw [List.take_add_one, hv2]; rfl⟩
      have HTS := Aside0.mk (HSZ.out t (List.mem_of_getElem? ht))
      have HTL : Aside0 ((l0.take k).length ≤ 4294967281) := ⟨by have := HNL.out; have := HNS.out; rw [List.length_take]; omega⟩
      clear ht hv hv2
      go_wp2_with (first
        | (go_at_call 70; refine (atoi_good t v HV.out _ HTS.out).mono ?_; rintro e w2 ⟨rfl, hb⟩; have n1_ := Aside0.mk (Kd.R_below HO.out hb); have n3_ := Aside0.mk (below_then HB1.out HB1.out.size hb); clear HO HB1 hb; have HO := n1_; have HB1 := n3_; clear n1_ n3_)
        | (go_at_call 54; refine (itoa_any v HQ.out _ (HL.out.below (below_then HB.out HB.out.size HB1.out))).mono ?_; rintro e w3 ⟨rfl, hb⟩; have n1_ := Aside0.mk (Kd.R_below HO.out hb); have n3_ := Aside0.mk (below_then HB1.out HB1.out.size hb); clear HO HB1 hb; have HO := n1_; have HB1 := n3_; clear n1_ n3_)
        | ((with_reducible refine gate_builtin (b := .append) (xs := #[.tmp 33, .tmp 35]) rfl ?_); at_builtin; refine Kd.R_append (Kd.int .i64) (w0 := w1) w1.heap.size rfl (.tmp 33) (.tmp 35) 26 3 (.int .i64 0) 8 rfl Tryd.underlying26 info3 rfl (by decide) (by omega) u6 (l0.take k) v [.int .i64 v] (fun _ => True) (fun _ => False) rfl rfl ?aP (fun _ hk => hk.elim) ?aF ?aO ?aB ?aS ?aL ?_; (case aP => exact rfl); (case aB => exact HB1.out); (case aF => exact (fun _ _ => trivial)); (case aO => exact HO.out); (case aS => exact HB1.out.size); (case aL => have := HTL.out; omega); intro v7 w7 ho hb hg_ hat_; clear hg_ hat_; have n1_ : Aside0 (Kd.R (Kd.int .i64) 3 w7 w1.heap.size (fun _ => True) v7 (l0.take k ++ [v])) := ⟨ho⟩; have n3_ := Aside0.mk hb; clear HO HB1 ho hb; have HO := n1_; have HB1 := n3_; clear n1_ n3_))
      go_roundw
      case rel => exact ⟨k + 1, by go_num, by omega, by rw [HT2.out]; exact HO, HB1⟩
      case measure => simp [intOf]; omega
    · obtain rfl : k = n + 1 := by omega
      obtain ⟨t, ht⟩ : ∃ t, ws[0]? = some t := ⟨_, List.getElem?_eq_getElem (by rw [HLEN.out]; omega)⟩
      have x0 : wr.cell? ⟨w.heap.size, 0, none⟩ = some (.string t) := by
        rw [blk_cell (blk_below BK.out HB1.out) 0]
        simp [ht]
      have hwd : t = wd := by
        rw [← HW.out, List.headD_eq_head?_getD, List.head?_eq_getElem?, ht]
        rfl
      subst hwd
      clear ht
      go_wp2
      go_ret3
      refine ⟨_, rfl, ?_, below_then HB.out HB.out.size HB1.out⟩
      have h := HO.out
      rw [← HNL.out, List.take_length] at h
      exact Kd.R_lower h HB.out.size
end Go.Proofs.YtfkfgjmhcfagkaaDoor.Given
