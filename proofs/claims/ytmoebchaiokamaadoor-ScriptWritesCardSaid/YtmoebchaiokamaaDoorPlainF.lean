/- What Print writes Parse reads, and what Parse reads Print writes: plain lists of bytes. -/
import Derived.Test.YtmoebchaiokamaaDoorPlainE
namespace Go.Proofs.YtmoebchaiokamaaDoor.Given
open Go.RowKit Go.Proofs.YtmoebchaiokamaaDoorW.PrintWords Go.Proofs.YtmoebchaiokamaaDoorW.PrintLast Go.Proofs.YtmoebchaiokamaaDoorW.PrintMore Go.Proofs.YtmoebchaiokamaaDoor.Print
set_option linter.unusedVariables false
set_option linter.unusedSimpArgs false
theorem itoaB_list (n : Int) : (itoaB n).data.toList = Lib.itoa n := by simp [itoaB]
theorem spI_list (n : Int) : (spI n).data.toList = 32 :: Lib.itoa n := by
  unfold spI
  rw [app_list, itoaB_list]
  rfl
theorem spAll_list : ∀ (l : List Int) (acc : ByteArray), (spAll acc l).data.toList = acc.data.toList ++ (l.map Lib.itoa).flatMap (fun x => 32 :: x)
  | [], acc => by simp [spAll]
  | n :: l, acc => by
    rw [spAll, spAll_list l, app_list, spI_list]
    simp
theorem mk_of (b : ByteArray) : mkB b.data.toList = b := rfl
theorem mkB_inj {a b : List UInt8} (h : mkB a = mkB b) : a = b := by rw [← mkB_list a, ← mkB_list b, h]
theorem itoa_no (l : List Int) : (∀ x ∈ l.map Lib.itoa, (32 : UInt8) ∉ x) ∧ ∀ x ∈ l.map Lib.itoa, (10 : UInt8) ∉ x := by
  refine ⟨fun x hx h => ?_, fun x hx h => ?_⟩
  · obtain ⟨n, _, rfl⟩ := List.mem_map.1 hx
    exact (itoa_bytes n 32 h).1 rfl
  · obtain ⟨n, _, rfl⟩ := List.mem_map.1 hx
    exact (itoa_bytes n 10 h).2 rfl
theorem join_no10 (w : List UInt8) (ws : List (List UInt8)) (hw : (10 : UInt8) ∉ w) (h : ∀ x ∈ ws, (10 : UInt8) ∉ x) : (10 : UInt8) ∉ joinS w ws := by
  intro hm
  rcases List.mem_append.1 hm with h1 | h1
  · exact hw h1
  · obtain ⟨x, hx, h2⟩ := List.mem_flatMap.1 h1
    rcases List.mem_cons.1 h2 with h3 | h3
    · exact absurd h3 (by decide)
    · exact h x hx h3
/-! ### lines -/
theorem cut_there : ∀ (a b : List UInt8), (10 : UInt8) ∉ a → lineCut (a ++ 10 :: b) = some (a, b)
  | [], b, _ => by simp [lineCut]
  | c :: a, b, h => by
    have hc : c ≠ 10 := fun e => h (by simp [e])
    rw [List.cons_append, lineCut, if_neg hc, cut_there a b (fun hm => h (by simp [hm]))]
    rfl
theorem cut_back : ∀ {l a b : List UInt8}, lineCut l = some (a, b) → l = a ++ 10 :: b ∧ (10 : UInt8) ∉ a
  | [], a, b, h => by simp [lineCut] at h
  | c :: l, a, b, h => by
    unfold lineCut at h
    by_cases hc : c = 10
    · rw [if_pos hc] at h
      injection h with h
      injection h with h1 h2
      subst h1 h2 hc
      exact ⟨rfl, by simp⟩
    · rw [if_neg hc] at h
      obtain ⟨⟨p, q⟩, h1, h2⟩ := Option.map_eq_some_iff.1 h
      injection h2 with h2 h3
      subst h2 h3
      obtain ⟨e, hn⟩ := cut_back h1
      refine ⟨by rw [e]; rfl, fun hm => ?_⟩
      rcases List.mem_cons.1 hm with h4 | h4
      · exact hc h4.symm
      · exact hn h4
theorem run_line (m i : Nat) (s : Scr) (a b : List UInt8) (h : (10 : UInt8) ∉ a) : parseRun (m + 1) i s (a ++ 10 :: b) = match readsOf i s (mkB a) with
    | .error c => (scr0, i + 1, c)
    | .ok s' => parseRun m (i + 1) s' b := by
  rw [parseRun, if_neg (by simp), cut_there a b h]
  rfl
/-! ### words -/
theorem words_of (w : List UInt8) (ns : List Int) (hw : (32 : UInt8) ∉ w) : wordsL (mkB (joinS w (ns.map Lib.itoa))) = mkB w :: ns.map itoaB := by
  have h := words_join w (ns.map Lib.itoa) hw (itoa_no ns).1
  apply map_ext
  rw [show mkB (joinS w (ns.map Lib.itoa)) = ⟨(joinS w (ns.map Lib.itoa)).toArray⟩ from rfl, h]
  simp [mkB_list, itoaB_list, Function.comp_def]
theorem mk_toList (w : List UInt8) : (mkB w).toList = w := by rw [Lib.toList_data, mkB_list]
theorem reads_of (i : Nat) (s : Scr) (w : List UInt8) (ns : List Int) (hw : (32 : UInt8) ∉ w) : readsOf i s (mkB (joinS w (ns.map Lib.itoa))) = readsW i s w (ns.map itoaB) := by
  unfold readsOf
  rw [words_of w ns hw]
  show readsW i s (mkB w).toList _ = _
  rw [mk_toList]
theorem take_itoa (ns : List Int) (h : ∀ n ∈ ns, okN n) : takeOf ns.length (ns.map itoaB) = some ns := by
  unfold takeOf
  rw [if_pos (by simp)]
  exact nums_itoa ns h
theorem take_inv {n : Nat} {r : List ByteArray} {ns : List Int} (h : takeOf n r = some ns) : r = ns.map itoaB ∧ ns.length = n ∧ ∀ x ∈ ns, okN x := by
  have hl := take_len h
  unfold takeOf at h
  split at h
  · obtain ⟨h1, h2⟩ := nums_inv _ _ h
    exact ⟨h1, hl, h2⟩
  · cases h
/-- What readsOf takes, by the words of the line. -/
theorem reads_inv (i : Nat) (s : Scr) (a : List UInt8) : ∃ w ws, a = joinS w ws ∧ (32 : UInt8) ∉ w ∧ ∃ r, readsOf i s (mkB a) = readsW i s w r ∧ r.map (fun b => b.data.toList) = ws := by
  obtain ⟨w, ws, he, hw, hws⟩ := join_decomp a
  refine ⟨w, ws, he, hw, ?_⟩
  have h := words_join w ws hw hws
  rw [← he] at h
  unfold readsOf
  rw [show mkB a = ⟨a.toArray⟩ from rfl]
  cases hl : wordsL ⟨a.toArray⟩ with
  | nil => rw [hl] at h; simp at h
  | cons t r =>
    rw [hl] at h
    simp only [List.map_cons, List.cons.injEq] at h
    refine ⟨r, ?_, h.2⟩
    show readsW i s t.toList r = _
    rw [Lib.toList_data, h.1]
theorem itoa_words {r : List ByteArray} {ns : List Int} {ws : List (List UInt8)} (h1 : r = ns.map itoaB) (h2 : r.map (fun b => b.data.toList) = ws) : ws = ns.map Lib.itoa := by
  rw [← h2, h1]
  simp [itoaB_list, Function.comp_def]
/-! ### a pick's line -/
theorem kindW_some {w : List UInt8} {k n : Nat} (h : kindW w = some (k, n)) : (w = wStep ∧ k = 1 ∧ n = 1) ∨ (w = wIn ∧ k = 2 ∧ n = 2) ∨ (w = wOut ∧ k = 3 ∧ n = 1) ∨ (w = wProbe ∧ k = 4 ∧ n = 0) := by
  unfold kindW at h
  split at h
  · rename_i e; injection h with h; injection h with h1 h2; exact .inl ⟨e, h1.symm, h2.symm⟩
  split at h
  · rename_i e; injection h with h; injection h with h1 h2; exact .inr (.inl ⟨e, h1.symm, h2.symm⟩)
  split at h
  · rename_i e; injection h with h; injection h with h1 h2; exact .inr (.inr (.inl ⟨e, h1.symm, h2.symm⟩))
  split at h
  · rename_i e; injection h with h; injection h with h1 h2; exact .inr (.inr (.inr ⟨e, h1.symm, h2.symm⟩))
  · cases h
theorem bstep : (⟨#[115, 116, 101, 112]⟩ : ByteArray) = mkB wStep := rfl
theorem bin : (⟨#[105, 110]⟩ : ByteArray) = mkB wIn := rfl
theorem bout : (⟨#[111, 117, 116]⟩ : ByteArray) = mkB wOut := rfl
theorem bprobe : (⟨#[112, 114, 111, 98, 101]⟩ : ByteArray) = mkB wProbe := rfl
/-- A pick's line is its word and its numbers. -/
theorem line_inv (p : S29) (b : ByteArray) (h : lineP p = some b) (h1 : okN p.f1) (h2 : okN p.f2) :
    ∃ (w : List UInt8) (k : Nat) (ns : List Int), b.data.toList = joinS w (ns.map Lib.itoa) ∧ kindW w = some (k, ns.length) ∧ p = ⟨k, ns.getD 0 0, ns.getD 1 0⟩ ∧ (∀ n ∈ ns, okN n) := by
  obtain ⟨k, n, v⟩ := p
  unfold lineP lineT at h
  dsimp only at h h1 h2
  split at h
  · rename_i e
    subst e
    split at h
    · rename_i e
      subst e
      injection h with h
      refine ⟨wStep, 1, [n], ?_, rfl, rfl, by simpa using h1⟩
      rw [← h, app_list, bstep, mkB_list, spI_list]
      simp [joinS]
    · cases h
  split at h
  · rename_i e
    subst e
    injection h with h
    refine ⟨wIn, 2, [n, v], ?_, rfl, rfl, by simp [h1, h2]⟩
    rw [← h, app_list, app_list, bin, mkB_list, spI_list, spI_list]
    simp [joinS]
  split at h
  · rename_i e
    subst e
    split at h
    · rename_i e
      subst e
      injection h with h
      refine ⟨wOut, 3, [n], ?_, rfl, rfl, by simpa using h1⟩
      rw [← h, app_list, bout, mkB_list, spI_list]
      simp [joinS]
    · cases h
  split at h
  · rename_i e
    subst e
    split at h
    · rename_i e
      obtain ⟨e1, e2⟩ := e
      subst e1 e2
      injection h with h
      refine ⟨wProbe, 4, [], ?_, rfl, rfl, by simp⟩
      rw [← h, bprobe, mkB_list]
      simp [joinS]
    · cases h
  · cases h
theorem line_of (w : List UInt8) (k : Nat) (ns : List Int) (hk : kindW w = some (k, ns.length)) : lineP ⟨k, ns.getD 0 0, ns.getD 1 0⟩ = some (mkB (joinS w (ns.map Lib.itoa))) := by
  rcases kindW_some hk with ⟨rfl, rfl, hn⟩ | ⟨rfl, rfl, hn⟩ | ⟨rfl, rfl, hn⟩ | ⟨rfl, rfl, hn⟩
  · match ns, hn with
    | [n], _ =>
      show some (⟨#[115, 116, 101, 112]⟩ ++ spI n) = _
      refine congrArg some (bytes_ext ?_)
      rw [app_list, bstep, mkB_list, mkB_list, spI_list]
      simp [joinS]
  · match ns, hn with
    | [n, v], _ =>
      show some (⟨#[105, 110]⟩ ++ spI n ++ spI v) = _
      refine congrArg some (bytes_ext ?_)
      rw [app_list, app_list, bin, mkB_list, mkB_list, spI_list, spI_list]
      simp [joinS]
  · match ns, hn with
    | [n], _ =>
      show some (⟨#[111, 117, 116]⟩ ++ spI n) = _
      refine congrArg some (bytes_ext ?_)
      rw [app_list, bout, mkB_list, mkB_list, spI_list]
      simp [joinS]
  · match ns, hn with
    | [], _ => rfl
theorem kind_no {w : List UInt8} {k n : Nat} (h : kindW w = some (k, n)) : (32 : UInt8) ∉ w ∧ (10 : UInt8) ∉ w := by
  rcases kindW_some h with ⟨rfl, _⟩ | ⟨rfl, _⟩ | ⟨rfl, _⟩ | ⟨rfl, _⟩ <;> decide
/-! ### there -/
theorem picks_there : ∀ (r : List S29) (acc t : ByteArray), linesFrom acc r = some t → (∀ p ∈ r, okN p.f1 ∧ okN p.f2) →
    ∃ L, t.data.toList = acc.data.toList ++ L ∧ ∀ (m i : Nat) (s : Scr), 2 ≤ i → s.picks.length + r.length ≤ 4096 → L.length < m → parseRun m i s L = (⟨s.lim, s.reap, s.picks ++ r⟩, 0, 0)
  | [], acc, t, h, _ => by
    injection h with h
    subst h
    refine ⟨[], by simp, fun m i s hi _ hm => ?_⟩
    obtain ⟨m, rfl⟩ : ∃ k, m = k + 1 := ⟨m - 1, by simp at hm; omega⟩
    rw [parseRun, if_pos ⟨rfl, hi⟩, List.append_nil]
  | p :: r, acc, t, h, hr => by
    cases hl : lineP p with
    | none => rw [lines_none hl] at h; cases h
    | some b =>
      rw [lines_some hl] at h
      obtain ⟨h1, h2⟩ := hr p (List.mem_cons_self ..)
      obtain ⟨w, k, ns, hb, hk, hp, hns⟩ := line_inv p b hl h1 h2
      obtain ⟨L, hL, hrun⟩ := picks_there r _ t h (fun q hq => hr q (List.mem_cons_of_mem _ hq))
      refine ⟨b.data.toList ++ 10 :: L, ?_, fun m i s hi hlen hm => ?_⟩
      · rw [hL, app_list, app_list]
        simp
      · obtain ⟨m, rfl⟩ : ∃ q, m = q + 1 := ⟨m - 1, by omega⟩
        rw [List.length_append, List.length_cons] at hm
        rw [List.length_cons] at hlen
        rw [hb, run_line m i s _ L (join_no10 w _ (kind_no hk).2 (itoa_no ns).2), reads_of i s w ns (kind_no hk).1]
        have e : readsW i s w (ns.map itoaB) = .ok ⟨s.lim, s.reap, s.picks ++ [p]⟩ := by
          unfold readsW
          rw [if_neg (by omega), if_neg (by omega)]
          unfold pickW
          rw [hk]
          dsimp only
          rw [if_neg (by omega), take_itoa ns hns, hp]
        rw [e]
        show parseRun m (i + 1) _ L = _
        rw [hrun m (i + 1) _ (by omega) (by simp; omega) (by omega)]
        simp
theorem limOf_L (x : Lim) : limOf (limL x) = x := rfl
theorem parse_there (s : Scr) (t : ByteArray) (h : printOf s = (t, 0)) (hr : rngS s) : parseOf t = (s, 0, 0) := by
  unfold printOf at h
  split at h
  · injection h with _ h; cases h
  · rename_i hm
    split at h
    · rename_i t' hl
      injection h with h _
      subst h
      obtain ⟨L, hL, hrun⟩ := picks_there s.picks _ _ hl hr.2
      have h0 : (headOf s).data.toList = joinS wLimits ((limL s.lim).map Lib.itoa) ++ 10 :: ((if s.reap = true then wReap else wKeep) ++ 10 :: []) := by
        unfold headOf
        rw [app_list, app_list, spAll_list]
        have e : (reapT s.reap).data.toList = (if s.reap = true then wReap else wKeep) ++ 10 :: [] := by
          unfold reapT
          cases s.reap <;> rfl
        rw [e]
        simp [joinS, wLimits]
      have ht : t'.data.toList = joinS wLimits ((limL s.lim).map Lib.itoa) ++ 10 :: ((if s.reap = true then wReap else wKeep) ++ 10 :: L) := by
        rw [hL, h0]
        simp
      have hsz : t'.size = t'.data.toList.length := rfl
      unfold parseOf
      rw [hsz, ht]
      generalize hN : (joinS wLimits ((limL s.lim).map Lib.itoa) ++ 10 :: ((if s.reap = true then wReap else wKeep) ++ 10 :: L)).length = N
      rw [List.length_append, List.length_cons, List.length_append, List.length_cons] at hN
      obtain ⟨N, rfl⟩ : ∃ k, N = k + 2 := ⟨N - 2, by omega⟩
      rw [run_line _ 0 scr0 _ _ (join_no10 _ _ (by decide) (itoa_no _).2), reads_of 0 scr0 wLimits _ (by decide)]
      have e0 : readsW 0 scr0 wLimits ((limL s.lim).map itoaB) = .ok ⟨s.lim, false, []⟩ := by
        unfold readsW
        rw [if_pos rfl, if_pos rfl, show (7 : Nat) = (limL s.lim).length from rfl, take_itoa _ hr.1]
        rfl
      rw [e0]
      show parseRun (N + 2) 1 _ _ = _
      have hj : (if s.reap = true then wReap else wKeep) = joinS (if s.reap = true then wReap else wKeep) (([] : List Int).map Lib.itoa) := by simp [joinS]
      have h32 : (32 : UInt8) ∉ (if s.reap = true then wReap else wKeep) ∧ (10 : UInt8) ∉ (if s.reap = true then wReap else wKeep) := by split <;> decide
      rw [run_line _ 1 _ _ _ h32.2, hj, reads_of 1 _ _ [] h32.1]
      have e1 : readsW 1 ⟨s.lim, false, []⟩ (if s.reap = true then wReap else wKeep) (([] : List Int).map itoaB) = .ok ⟨s.lim, s.reap, []⟩ := by
        unfold readsW
        rw [if_neg (by decide), if_pos rfl]
        cases s.reap <;> rfl
      rw [e1]
      show parseRun (N + 1) 2 _ L = _
      rw [hrun (N + 1) 2 _ (by omega) (by simp; omega) (by omega)]
      rfl
    · injection h with _ h; cases h
/-! ### back -/
theorem picks_back : ∀ (m i : Nat) (s : Scr) (l : List UInt8) (x : Scr) (ln : Nat), 2 ≤ i → l.length < m → s.picks.length ≤ 4096 → parseRun m i s l = (x, ln, 0) →
    ln = 0 ∧ x.picks.length ≤ 4096 ∧ ∃ r, x = ⟨s.lim, s.reap, s.picks ++ r⟩ ∧ (∀ p ∈ r, okN p.f1 ∧ okN p.f2) ∧ ∀ acc, linesFrom acc r = some (acc ++ mkB l)
  | 0, i, s, l, x, ln, hi, hm, hs, h => by omega
  | m + 1, i, s, l, x, ln, hi, hm, hs, h => by
    rw [parseRun] at h
    split at h
    · rename_i he
      injection h with h1 h2
      injection h2 with h2 _
      subst h1
      refine ⟨h2.symm, hs, [], by simp, by simp, fun acc => ?_⟩
      rw [linesFrom, he.1]
      refine congrArg some (bytes_ext ?_)
      rw [app_list, mkB_list, List.append_nil]
    · split at h
      · injection h with _ h; injection h with _ h; cases h
      · rename_i p hc
        obtain ⟨a, b⟩ := p
        obtain ⟨rfl, hn⟩ := cut_back hc
        rw [List.length_append, List.length_cons] at hm
        obtain ⟨w, ws, ha, hw, r, hr, hws⟩ := reads_inv i s a
        dsimp only at h
        rw [hr] at h
        unfold readsW at h
        rw [if_neg (by omega), if_neg (by omega)] at h
        unfold pickW at h
        cases hk : kindW w with
        | none => rw [hk] at h; injection h with _ h; injection h with _ h; cases h
        | some kn =>
          obtain ⟨k, n⟩ := kn
          rw [hk] at h
          dsimp only at h
          by_cases hmn : 4096 ≤ s.picks.length
          · rw [if_pos hmn] at h; injection h with _ h; injection h with _ h; cases h
          · rw [if_neg hmn] at h
            cases ht : takeOf n r with
            | none => rw [ht] at h; injection h with _ h; injection h with _ h; cases h
            | some ns =>
              rw [ht] at h
              dsimp only at h
              obtain ⟨h1, h2, h3⟩ := take_inv ht
              have hww := itoa_words h1 hws
              subst hww
              obtain ⟨g1, g2, r', g3, g4, g5⟩ := picks_back m (i + 1) _ b x ln (by omega) (by omega) (by simp; omega) h
              refine ⟨g1, g2, ⟨k, ns.getD 0 0, ns.getD 1 0⟩ :: r', by rw [g3]; simp, ?_, fun acc => ?_⟩
              · intro p hp
                rcases List.mem_cons.1 hp with rfl | hp
                · have hg : ∀ j, okN (ns.getD j 0) := fun j => by
                    rw [List.getD_eq_getElem?_getD]
                    cases hj : ns[j]? with
                    | none => exact ⟨by decide, by decide⟩
                    | some v => exact h3 v (List.mem_of_getElem? hj)
                  exact ⟨hg 0, hg 1⟩
                · exact g4 p hp
              · rw [lines_some (line_of w k ns (by rw [hk, h2])), g5]
                refine congrArg some (bytes_ext ?_)
                rw [app_list, app_list, app_list, app_list, mkB_list, mkB_list, mkB_list, ha]
                simp
theorem parse_back (t : ByteArray) (x : Scr) (ln : Nat) (h : parseOf t = (x, ln, 0)) : ln = 0 ∧ rngS x ∧ printOf x = (t, 0) := by
  unfold parseOf at h
  have hsz : t.size = t.data.toList.length := rfl
  rw [hsz] at h
  generalize hl : t.data.toList = l at h
  rw [parseRun, if_neg (by simp)] at h
  split at h
  · injection h with _ h; injection h with _ h; cases h
  · rename_i p hc
    obtain ⟨a, b⟩ := p
    obtain ⟨rfl, hn⟩ := cut_back hc
    obtain ⟨w, ws, ha, hw, r, hr, hws⟩ := reads_inv 0 scr0 a
    dsimp only at h
    rw [hr] at h
    unfold readsW at h
    rw [if_pos rfl] at h
    by_cases hwl : w = wLimits
    · rw [if_pos hwl] at h
      cases ht : takeOf 7 r with
      | none => rw [ht] at h; injection h with _ h; injection h with _ h; cases h
      | some ns =>
        rw [ht] at h
        dsimp only at h
        obtain ⟨h1, h2, h3⟩ := take_inv ht
        have hww := itoa_words h1 hws
        subst hww
        have hll : (a ++ 10 :: b).length = a.length + (b.length + 1) := by simp
        rw [hll] at h
        obtain ⟨m, hm⟩ : ∃ m, a.length + (b.length + 1) = m + 1 ∧ b.length ≤ m := ⟨a.length + b.length, by omega, by omega⟩
        rw [hm.1, parseRun, if_neg (by simp)] at h
        split at h
        · injection h with _ h; injection h with _ h; cases h
        · rename_i p2 hc2
          obtain ⟨a2, b2⟩ := p2
          obtain ⟨rfl, hn2⟩ := cut_back hc2
          obtain ⟨w2, ws2, ha2, hw2, r2, hr2, hws2⟩ := reads_inv 1 ⟨limOf ns, scr0.reap, scr0.picks⟩ a2
          dsimp only at h
          rw [hr2] at h
          unfold readsW at h
          rw [if_neg (by decide), if_pos rfl] at h
          by_cases hk : w2 = wKeep ∨ w2 = wReap
          · rw [if_pos hk] at h
            cases ht2 : takeOf 0 r2 with
            | none => rw [ht2] at h; injection h with _ h; injection h with _ h; cases h
            | some ns2 =>
              rw [ht2] at h
              dsimp only at h
              obtain ⟨h4, h5, _⟩ := take_inv ht2
              have hww := itoa_words h4 hws2
              subst hww
              obtain rfl := List.eq_nil_of_length_eq_zero h5
              have hml := hm.2
              rw [List.length_append, List.length_cons] at hml
              obtain ⟨g1, g2, r', g3, g4, g5⟩ := picks_back m 2 _ b2 x ln (by omega) (by omega) (by simp [scr0]) h
              have hlim : limL (limOf ns) = ns := by
                match ns, h2 with
                | [_, _, _, _, _, _, _], _ => rfl
              have hxl : x.lim = limOf ns := by rw [g3]
              have hxr : x.reap = decide (w2 = wReap) := by rw [g3]
              have hxp : x.picks = r' := by rw [g3]; rfl
              refine ⟨g1, ⟨by rw [hxl, hlim]; exact h3, by rw [hxp]; exact g4⟩, ?_⟩
              unfold printOf
              rw [if_neg (by omega), hxp, g5]
              refine congrArg (fun q => (q, (0 : Int))) (bytes_ext ?_)
              rw [app_list, mkB_list, hl]
              unfold headOf
              rw [app_list, app_list, spAll_list, hxl, hlim, hxr, ha, ha2, hwl]
              have e : (reapT (decide (w2 = wReap))).data.toList = w2 ++ 10 :: [] := by
                rcases hk with rfl | rfl <;> rfl
              rw [e]
              simp [joinS, wLimits]
          · rw [if_neg hk] at h; injection h with _ h; injection h with _ h; cases h
    · rw [if_neg hwl] at h; injection h with _ h; injection h with _ h; cases h
/-! ### what is wrong -/
theorem reads_err {i : Nat} {s : Scr} {a : ByteArray} {c : Int} (h : readsOf i s a = .error c) : c ≠ 0 := by
  have hW : ∀ (w : List UInt8) (r : List ByteArray), readsW i s w r = .error c → c ≠ 0 := by
    intro w r h
    unfold readsW pickW at h
    repeat' split at h
    all_goals first
      | (cases h; done)
      | (injection h with h; subst h; decide)
  unfold readsOf at h
  split at h
  · injection h with h; subst h; decide
  · exact hW _ _ h
theorem run_err : ∀ (m i : Nat) (s : Scr) (l : List UInt8) (x : Scr) (ln : Nat) (c : Int), parseRun m i s l = (x, ln, c) → c ≠ 0 → 0 < ln ∧ x.picks = []
  | 0, i, s, l, x, ln, c, h, hc => by injection h with _ h; injection h with _ h; exact absurd h.symm hc
  | m + 1, i, s, l, x, ln, c, h, hc => by
    rw [parseRun] at h
    split at h
    · injection h with _ h; injection h with _ h; exact absurd h.symm hc
    · split at h
      · injection h with h1 h; injection h with h2 _; subst h1 h2; exact ⟨by omega, rfl⟩
      · split at h
        · injection h with h1 h; injection h with h2 _; subst h1 h2; exact ⟨by omega, rfl⟩
        · exact run_err m (i + 1) _ _ x ln c h hc
/-! ### how long a text Print writes -/
theorem lines_len : ∀ (r : List S29) (acc t : ByteArray), linesFrom acc r = some t → (∀ p ∈ r, okN p.f1 ∧ okN p.f2) → t.size ≤ acc.size + 60 * r.length
  | [], acc, t, h, _ => by injection h with h; subst h; omega
  | p :: r, acc, t, h, hr => by
    cases hl : lineP p with
    | none => rw [lines_none hl] at h; cases h
    | some b =>
      rw [lines_some hl] at h
      obtain ⟨h1, h2⟩ := hr p (List.mem_cons_self ..)
      have := lines_len r _ t h (fun q hq => hr q (List.mem_cons_of_mem _ hq))
      have := lineP_len p h1 h2 b hl
      have e1 : (⟨#[10]⟩ : ByteArray).size = 1 := rfl
      rw [size_append, size_append] at *
      rw [List.length_cons]
      omega
theorem print_len (s : Scr) (t : ByteArray) (h : printOf s = (t, 0)) (hr : rngS s) : t.size ≤ 300000 := by
  unfold printOf at h
  split at h
  · injection h with _ h; cases h
  · split at h
    · rename_i t' hl
      injection h with h _
      subst h
      have := lines_len _ _ _ hl hr.2
      have := head_len s hr
      omega
    · injection h with _ h; cases h
end Go.Proofs.YtmoebchaiokamaaDoor.Given
