/- script.written: a pick's line. -/
import Derived.Test.YtmoebchaiokamaaDoorGivenM
namespace Go.Proofs.YtmoebchaiokamaaDoor.Given
open Go.RowKit Go.Proofs.YtmoebchaiokamaaDoorW.PrintWords Go.Proofs.YtmoebchaiokamaaDoorW.PrintLast Go.Proofs.YtmoebchaiokamaaDoorW.PrintMore Go.Proofs.YtmoebchaiokamaaDoor.Print
set_option linter.unusedVariables false
set_option linter.unusedSimpArgs false
/-- A number behind a space. -/
def spI (n : Int) : ByteArray := ⟨#[32]⟩ ++ itoaB n
/-- A pick's line, without its end, of its kind and its numbers' texts; none: it may not be. -/
def lineT (k n v : Int) (sn sv : ByteArray) : Option ByteArray :=
  if k = 1 then if v = 0 then some (⟨#[115, 116, 101, 112]⟩ ++ sn) else none
  else if k = 2 then some (⟨#[105, 110]⟩ ++ sn ++ sv)
  else if k = 3 then if v = 0 then some (⟨#[111, 117, 116]⟩ ++ sn) else none
  else if k = 4 then if n = 0 ∧ v = 0 then some ⟨#[112, 114, 111, 98, 101]⟩ else none
  else none
def lineP (p : S29) : Option ByteArray := lineT p.f0 p.f1 p.f2 (spI p.f1) (spI p.f2)
def WritesSays (w : World) (r : Option ByteArray) (e : Ending) (w' : World) : Prop := (match r with
  | some b => e = .returned (.tuple #[.string b, .bool true])
  | none => ∃ b, e = .returned (.tuple #[.string b, .bool false])) ∧ Below w.heap.size w w'
theorem dec_len : ∀ (k u : Nat), u < 10 ^ (k + 1) → (Lib.decDigits u).length ≤ k + 1
  | 0, u, h => by
    rw [Lib.decDigits, dif_pos (by omega)]
    simp
  | k + 1, u, h => by
    rw [Lib.decDigits]
    split
    · simp
    · have := dec_len k (u / 10) (by rw [Nat.pow_succ] at h; omega)
      simp only [List.length_append, List.length_cons, List.length_nil]
      omega
theorem itoa_len (n : Int) (h : -9223372036854775808 ≤ n ∧ n ≤ 9223372036854775807) : (itoaB n).size ≤ 20 := by
  have hs : (itoaB n).size = (Lib.itoa n).length := by simp [itoaB, ByteArray.size]
  rw [hs]
  unfold Lib.itoa
  split
  · have := dec_len 18 n.natAbs (by omega)
    simp only [List.length_cons]
    omega
  · have := dec_len 18 n.toNat (by omega)
    omega
/-- Words with a byte behind each. -/
def wsz : List ByteArray → Nat
  | [] => 0
  | x :: l => x.size + 1 + wsz l
def okN (n : Int) : Prop := -9223372036854775808 ≤ n ∧ n ≤ 9223372036854775807
theorem spI_len (n : Int) (h : okN n) : (spI n).size ≤ 21 := by
  have := itoa_len n h
  unfold spI
  rw [size_append]
  have : (⟨#[32]⟩ : ByteArray).size = 1 := rfl
  omega
set_option maxRecDepth 100000 in
set_option maxHeartbeats 8000000 in
theorem written_x (k n v : Int) (w : World) (hL : LW w) (h1 : okN n) (h2 : okN v) :
    Calls Tryd.prog 14 #[.agg #[.int .i64 k, .int .i64 n, .int .i64 v]] w (WritesSays w (lineP ⟨k, n, v⟩)) := by
  have HL := Aside0.mk hL
  have H1 := Aside0.mk h1
  have H2 := Aside0.mk h2
  have BP := Aside0.mk (heap_alloc_new w (.cells #[.int .i64 k, .int .i64 n, .int .i64 v] 29))
  have B0 := Aside0.mk (bel1 w (.cells #[.int .i64 k, .int .i64 n, .int .i64 v] 29))
  clear hL h1 h2
  generalize hr : lineP ⟨k, n, v⟩ = r
  have HR : Aside0 (lineT k n v (spI n) (spI v) = r) := ⟨hr⟩
  clear hr
  go_enter Tryd.func14, Tryd.ntmps14
  go_upto_region 1 with (fail)
  obtain ⟨g, hg⟩ : ∃ g, g = w.heap.size := ⟨_, rfl⟩
  have HG := Aside0.mk hg
  rw [← hg] at BP ⊢
  generalize w.alloc (.cells #[.int .i64 k, .int .i64 n, .int .i64 v] 29) = w1 at BP B0 ⊢
  clear hg
  have x0 : w1.cell? ⟨g, 0, none⟩ = some (.int .i64 k) := (blk_cell BP.out 0).trans rfl
  have x1 : w1.cell? ⟨g, 1, none⟩ = some (.int .i64 n) := (blk_cell BP.out 1).trans rfl
  have x2 : w1.cell? ⟨g, 2, none⟩ = some (.int .i64 v) := (blk_cell BP.out 2).trans rfl
  go_cut [4, 5] (fun v4 v5 wc => v4 = .string (spI n) ∧ v5 = .string (spI v) ∧ Aside0 (Below w.heap.size w wc) ∧ Aside0 (wc.heap[g]? = some (.cells #[.int .i64 k, .int .i64 n, .int .i64 v] 29 (0, 0))))
  case first =>
    rename_i JJ KK hJ hM
    have z1_ := itoa_len n H1.out
    have z2_ := itoa_len v H2.out
    have BBX : Aside0 (Below w.heap.size w w1.drew) := ⟨below_drew1 B0.out⟩
    have BPX : Aside0 (w1.drew.heap[g]? = some (.cells #[.int .i64 k, .int .i64 n, .int .i64 v] 29 (0, 0))) := ⟨blk_drew BP.out⟩
    go_region_with (first | (go_at_call 13; refine (itoa_any n H1.out _ (HL.out.below BBX.out)).mono ?_; rintro e w2 ⟨rfl, hb⟩; have b2_ := Aside0.mk (below_then BBX.out BBX.out.size hb); have p2_ := Aside0.mk (blk_below BPX.out hb); clear hb BBX BPX; have BBX := b2_; have BPX := p2_; clear b2_ p2_; have y1 : w2.cell? ⟨g, 1, none⟩ = some (.int .i64 n) := (blk_cell BPX.out 1).trans rfl; have y2 : w2.cell? ⟨g, 2, none⟩ = some (.int .i64 v) := (blk_cell BPX.out 2).trans rfl) | (go_at_call 13; refine (itoa_any v H2.out _ (HL.out.below BBX.out)).mono ?_; rintro e w2 ⟨rfl, hb⟩; have b2_ := Aside0.mk (below_then BBX.out BBX.out.size hb); have p2_ := Aside0.mk (blk_below BPX.out hb); clear hb BBX BPX; have BBX := b2_; have BPX := p2_; clear b2_ p2_; have y1 : w2.cell? ⟨g, 1, none⟩ = some (.int .i64 n) := (blk_cell BPX.out 1).trans rfl; have y2 : w2.cell? ⟨g, 2, none⟩ = some (.int .i64 v) := (blk_cell BPX.out 2).trans rfl))
    all_goals refine hM _ _ ?_
    all_goals go_meet
    all_goals exact ⟨rfl, rfl, BBX, BPX⟩
  case rest =>
    obtain ⟨rfl, rfl, HB, BPC⟩ := hcut
    clear x0 x1 x2 BP B0
    have x0 : wc.cell? ⟨g, 0, none⟩ = some (.int .i64 k) := (blk_cell BPC.out 0).trans rfl
    have x1 : wc.cell? ⟨g, 1, none⟩ = some (.int .i64 n) := (blk_cell BPC.out 1).trans rfl
    have x2 : wc.cell? ⟨g, 2, none⟩ = some (.int .i64 v) := (blk_cell BPC.out 2).trans rfl
    have z1 := spI_len n H1.out
    have z2 := spI_len v H2.out
    generalize spI n = sn at HR z1 ⊢
    generalize spI v = sv at HR z2 ⊢
    by_cases k1 : k = 1
    · subst k1
      by_cases hv : v = 0
      · subst hv
        have HR2 : Aside0 (r = some (⟨#[115, 116, 101, 112]⟩ ++ sn)) := ⟨by rw [← HR.out]; simp [lineP, lineT]⟩
        clear HR
        go_upto_region 4 with (fail)
        go_quiet (fail)
        go_wp2_with (fail)
        go_ret2
        rw [HR2.out]
        exact ⟨rfl, pw_below_drewN HB.out _⟩
      · have e2 : (v == 0) = false := beq_eq_false_iff_ne.2 hv
        have HR2 : Aside0 (r = none) := ⟨by rw [← HR.out]; simp [lineP, lineT, hv]⟩
        clear HR
        go_upto_region 4 with (fail)
        go_quiet (fail)
        go_wp2_with (fail)
        go_ret2
        rw [HR2.out]
        exact ⟨⟨_, rfl⟩, pw_below_drewN HB.out _⟩
    by_cases k2 : k = 2
    · subst k2
      have HR2 : Aside0 (r = some (⟨#[105, 110]⟩ ++ sn ++ sv)) := ⟨by rw [← HR.out]; simp [lineP, lineT]⟩
      clear HR
      go_wp2_with (fail)
      go_ret2
      rw [HR2.out]
      exact ⟨rfl, HB.out⟩
    by_cases k3 : k = 3
    · subst k3
      by_cases hv : v = 0
      · subst hv
        have HR2 : Aside0 (r = some (⟨#[111, 117, 116]⟩ ++ sn)) := ⟨by rw [← HR.out]; simp [lineP, lineT]⟩
        clear HR
        go_upto_region 8 with (fail)
        go_quiet (fail)
        go_wp2_with (fail)
        go_ret2
        rw [HR2.out]
        exact ⟨rfl, pw_below_drewN HB.out _⟩
      · have e2 : (v == 0) = false := beq_eq_false_iff_ne.2 hv
        have HR2 : Aside0 (r = none) := ⟨by rw [← HR.out]; simp [lineP, lineT, hv]⟩
        clear HR
        go_upto_region 8 with (fail)
        go_quiet (fail)
        go_wp2_with (fail)
        go_ret2
        rw [HR2.out]
        exact ⟨⟨_, rfl⟩, pw_below_drewN HB.out _⟩
    by_cases k4 : k = 4
    · subst k4
      by_cases hn : n = 0
      · subst hn
        by_cases hv : v = 0
        · subst hv
          have HR2 : Aside0 (r = some ⟨#[112, 114, 111, 98, 101]⟩) := ⟨by rw [← HR.out]; simp [lineP, lineT]⟩
          clear HR
          go_upto_region 10 with (fail)
          go_quiet (fail)
          go_wp2_with (fail)
          go_ret2
          rw [HR2.out]
          exact ⟨rfl, pw_below_drewN HB.out _⟩
        · have e2 : (v == 0) = false := beq_eq_false_iff_ne.2 hv
          have HR2 : Aside0 (r = none) := ⟨by rw [← HR.out]; simp [lineP, lineT, hv]⟩
          clear HR
          go_upto_region 10 with (fail)
          go_quiet (fail)
          go_wp2_with (fail)
          go_ret2
          rw [HR2.out]
          exact ⟨⟨_, rfl⟩, pw_below_drewN HB.out _⟩
      · have e1 : (n == 0) = false := beq_eq_false_iff_ne.2 hn
        have HR2 : Aside0 (r = none) := ⟨by rw [← HR.out]; simp [lineP, lineT, hn]⟩
        clear HR
        go_upto_region 10 with (fail)
        go_quiet (fail)
        go_wp2_with (fail)
        go_ret2
        rw [HR2.out]
        exact ⟨⟨_, rfl⟩, pw_below_drewN HB.out _⟩
    have e1 : (k == 1) = false := beq_eq_false_iff_ne.2 k1
    have e2 : (k == 2) = false := beq_eq_false_iff_ne.2 k2
    have e3 : (k == 3) = false := beq_eq_false_iff_ne.2 k3
    have e4 : (k == 4) = false := beq_eq_false_iff_ne.2 k4
    have HR2 : Aside0 (r = none) := ⟨by rw [← HR.out]; simp [lineP, lineT, k1, k2, k3, k4]⟩
    clear HR
    go_wp2_with (fail)
    go_ret2
    rw [HR2.out]
    exact ⟨⟨_, rfl⟩, HB.out⟩
end Go.Proofs.YtmoebchaiokamaaDoor.Given
