import Derived.Test.YtmoebchaiokamaaDoorPlainF
import Derived.Test.YtmoebchaiokamaaDoorPrint4
import Derived.Test.YtmoebchaiokamaaDoorGivenV
import Derived.Laws.MakeOwn
import Derived.Laws.CopyOwn
import Derived.Lib.SlBuf
import Derived.BigQuiet
import Derived.Deep.RegionHeld3
/- The reference's digits are Go's. -/
namespace Go.Proofs.YtmoebchaiokamaaDoor.Given
open Go.RowKit Go.Proofs.YtmoebchaiokamaaDoorW.PrintWords Go.Proofs.YtmoebchaiokamaaDoorW.PrintLast Go.Proofs.YtmoebchaiokamaaDoorW.PrintMore Go.Proofs.YtmoebchaiokamaaDoor.Print
set_option linter.unusedVariables false
set_option linter.unusedSimpArgs false
/-- With fuel enough. -/
def Ev {α : Type} (f : Nat → Option α) (v : α) : Prop := ∃ K, ∀ k, K ≤ k → f k = some v
theorem Ev.step {α : Type} {f g : Nat → Option α} {v : α} (h : Ev g v) (hf : ∀ k, f (k + 1) = g k) : Ev f v := by
  obtain ⟨K, hK⟩ := h
  refine ⟨K + 1, fun k hk => ?_⟩
  obtain ⟨n, rfl⟩ : ∃ n, k = n + 1 := ⟨k - 1, by omega⟩
  rw [hf]
  exact hK n (by omega)
theorem Ev.done {α : Type} {f : Nat → Option α} {v : α} (hf : ∀ k, f (k + 1) = some v) : Ev f v := ⟨1, fun k hk => by
  obtain ⟨n, rfl⟩ : ∃ n, k = n + 1 := ⟨k - 1, by omega⟩
  exact hf n⟩
theorem Ev.eq {α : Type} {f g : Nat → Option α} {v : α} (h : Ev g v) (hf : ∀ k, f k = g k) : Ev f v := by
  obtain ⟨K, hK⟩ := h
  exact ⟨K, fun k hk => (hf k).trans (hK k hk)⟩
theorem Ev.bind {α β : Type} {f : Nat → Option α} {F : Nat → α → Option β} {v : α} {u : β} (h : Ev f v) (hF : Ev (fun k => F k v) u) : Ev (fun k => (f k).bind fun x => F k x) u := by
  obtain ⟨K, hK⟩ := h
  obtain ⟨K2, hK2⟩ := hF
  refine ⟨max K K2, fun k hk => ?_⟩
  show (f k).bind _ = some u
  rw [hK k (by omega)]
  exact hK2 k (by omega)
theorem Ev.get {α : Type} {f : Nat → Option α} {v : α} (h : Ev f v) : ∃ k, f k = some v := by
  obtain ⟨K, hK⟩ := h
  exact ⟨K, hK K (Nat.le_refl _)⟩
def preD (u : Nat) : List UInt8 := if u < 10 then [] else Lib.decDigits (u / 10)
theorem dec_pre (u : Nat) : Lib.decDigits u = preD u ++ [UInt8.ofNat (48 + u % 10)] := by
  rw [Lib.decDigits]
  unfold preD
  split
  · rw [List.nil_append, Nat.mod_eq_of_lt (by assumption)]
  · rfl
theorem wrap_succ (n : Nat) (h : n < 9223372036854775807) : wrap64 ((n : Int) + 1) = ((n + 1 : Nat) : Int) := by simp only [wrap64]; omega
theorem num_str (d : Nat) (h : d < 10) : strOfNums [(wrap64 (48 + (d : Int))) % 256] = ⟨#[UInt8.ofNat (48 + d)]⟩ := by
  have key : ∀ d : Fin 10, strOfNums [(wrap64 (48 + (d.val : Int))) % 256] = ⟨#[UInt8.ofNat (48 + d.val)]⟩ := by decide +kernel
  exact key ⟨d, h⟩
theorem digit_of (u : Nat) : strOfNums [(wrap64 (48 + (Int.tmod (u : Int) 10))) % 256] = ⟨#[UInt8.ofNat (48 + u % 10)]⟩ := by
  rw [Int.tmod_eq_emod_of_nonneg (by omega), show ((u : Int) % 10) = ((u % 10 : Nat) : Int) by omega]
  exact num_str _ (by omega)
theorem dig_loop : ∀ (d u : Nat) (s : ByteArray), u < 10 ^ d → u ≤ 9223372036854775807 → s.size + d ≤ 1000 → Ev (fun k => squintref17_Digits.l0 k (u : Int) s) (⟨(preD u).toArray⟩ ++ s)
  | d, u, s, hu, hb, hs => by
    by_cases h : u < 10
    · refine Ev.done fun k => ?_
      rw [squintref17_Digits.l0, if_neg (by omega)]
      refine congrArg some (bytes_ext ?_)
      rw [app_list]
      simp [preD, h]
    · match d, hu, hs with
      | 0, hu, _ => simp at hu; omega
      | d + 1, hu, hs =>
        have e1 : wrap64 (Int.tdiv (u : Int) 10) = ((u / 10 : Nat) : Int) := by
          rw [Int.tdiv_eq_ediv_of_nonneg (by omega)]
          simp only [wrap64]
          omega
        have e2 : (ByteArray.mk #[UInt8.ofNat (48 + u / 10 % 10)]).size = 1 := rfl
        have hv : (⟨(preD u).toArray⟩ : ByteArray) ++ s = ⟨(preD (u / 10)).toArray⟩ ++ (⟨#[UInt8.ofNat (48 + u / 10 % 10)]⟩ ++ s) := by
          refine bytes_ext ?_
          rw [app_list, app_list, app_list]
          simp only [preD, if_neg h]
          rw [dec_pre (u / 10)]
          simp [preD]
        rw [hv]
        refine Ev.step (dig_loop d (u / 10) _ (by rw [Nat.pow_succ] at hu; omega) (by omega) (by rw [size_append]; omega)) fun k => ?_
        rw [squintref17_Digits.l0, if_pos (by omega), e1]
        simp only [Option.bind_some]
        rw [digit_of, if_pos (by omega)]
theorem dig_nat (u : Nat) (h : u ≤ 9223372036854775807) : Ev (fun k => squintref17_Digits.f k (u : Int)) (itoaB (u : Int)) := by
  have hv : itoaB (u : Int) = ⟨(preD u).toArray⟩ ++ ⟨#[UInt8.ofNat (48 + u % 10)]⟩ := by
    refine bytes_ext ?_
    rw [itoaB_list, app_list]
    unfold Lib.itoa
    rw [if_neg (by omega), Int.toNat_natCast, dec_pre]
  rw [hv]
  refine Ev.step (dig_loop 20 u _ (by omega) h (by show 1 + 20 ≤ 1000; decide)) fun k => ?_
  rw [squintref17_Digits.f, if_neg (by omega), digit_of]
theorem ref_digits (n : Int) (h : okN n) : Ev (fun k => squintref17_Digits.f k n) (itoaB n) := by
  unfold okN at h
  by_cases hn : n < 0
  · by_cases hm : n = -9223372036854775808
    · subst hm
      refine Ev.done fun k => ?_
      rw [squintref17_Digits.f, if_pos (by decide), if_pos rfl]
      exact congrArg some (by decide +kernel)
    · have e : wrap64 (-n) = ((n.natAbs : Nat) : Int) := by simp only [wrap64]; omega
      have hv : itoaB n = ⟨#[45]⟩ ++ itoaB ((n.natAbs : Nat) : Int) := by
        refine bytes_ext ?_
        rw [app_list, itoaB_list, itoaB_list]
        unfold Lib.itoa
        rw [if_pos hn, if_neg (by omega), Int.toNat_natCast]
        rfl
      have hl := itoa_len ((n.natAbs : Nat) : Int) (by omega)
      refine Ev.step (g := fun k => (squintref17_Digits.f k ((n.natAbs : Nat) : Int)).bind fun t => if 1 + t.size ≤ 9223372036854775807 then some ((⟨#[45]⟩ : ByteArray) ++ t) else none) ?_ fun k => ?_
      · refine Ev.bind (dig_nat n.natAbs (by omega)) ?_
        refine ⟨0, fun k _ => ?_⟩
        show (if _ then _ else _) = _
        rw [if_pos (by omega), hv]
      · rw [squintref17_Digits.f, if_pos hn, if_neg hm, e]
  · obtain ⟨u, rfl⟩ : ∃ u : Nat, n = u := ⟨n.toNat, by omega⟩
    exact dig_nat u (by omega)
theorem digits_any (n : Int) (h : okN n) (w : World) : Calls Tryd.prog 16 #[.int .i64 n] w fun e w' => e = .returned (.string (itoaB n)) ∧ Below w.heap.size w w' := by
  obtain ⟨k, hk⟩ := (ref_digits n h).get
  exact squintref17_Digits.calls k n _ w hk
end Go.Proofs.YtmoebchaiokamaaDoor.Given
/- The reference's Print at any script: what Print answers. -/
namespace Go.Proofs.YtmoebchaiokamaaDoor.Given
open Go.RowKit Go.Proofs.YtmoebchaiokamaaDoorW.PrintWords Go.Proofs.YtmoebchaiokamaaDoorW.PrintLast Go.Proofs.YtmoebchaiokamaaDoorW.PrintMore Go.Proofs.YtmoebchaiokamaaDoor.Print
set_option linter.unusedVariables false
set_option linter.unusedSimpArgs false
set_option maxRecDepth 100000 in
set_option maxHeartbeats 4000000 in
theorem refp_many (A : Option Addr) (c : Nat) (s : Scr) (w : World) (hr : Kd.C k29 w A s.picks.length s.picks) (hrg : rngS s) (hm : 4096 < s.picks.length) :
    Calls Tryd.prog 8 #[.agg #[.int .i64 s.lim.f0, .int .i64 s.lim.f1, .int .i64 s.lim.f2, .int .i64 s.lim.f3, .int .i64 s.lim.f4, .int .i64 s.lim.f5, .int .i64 s.lim.f6, .bool s.reap, .slice A s.picks.length c]] w fun e w' => e = .returned (.tuple #[.string (printOf s).1, .int .i64 (printOf s).2]) ∧ Below w.heap.size w w' := by
  have HP : Aside0 (printOf s = (⟨#[]⟩, 172)) := ⟨if_pos hm⟩
  have hd : decide (4096 < s.picks.length) = true := decide_eq_true hm
  have hd2 : decide (((s.picks.length : Nat) : Int) > 4096) = true := decide_eq_true (by omega)
  have x8 : (w.alloc (.cells #[.int .i64 s.lim.f0, .int .i64 s.lim.f1, .int .i64 s.lim.f2, .int .i64 s.lim.f3, .int .i64 s.lim.f4, .int .i64 s.lim.f5, .int .i64 s.lim.f6, .bool s.reap, .slice A s.picks.length c] 26)).cell? ⟨w.heap.size, 8, none⟩ = some (.slice A s.picks.length c) := (blk_cell (heap_alloc_new w _) 8).trans rfl
  go_enter Tryd.func8, Tryd.ntmps8
  go_wp2_with (fail)
  go_ret2
  rw [HP.out]
  exact ⟨rfl, bel1 w _⟩
set_option maxRecDepth 100000 in
set_option maxHeartbeats 16000000 in
theorem refp_few_false (A : Option Addr) (c : Nat) (s : Scr) (w : World) (hr : Kd.C k29 w A s.picks.length s.picks) (hrg : rngS s) (hm : ¬ 4096 < s.picks.length) (hrp : s.reap = false) :
    Calls Tryd.prog 8 #[.agg #[.int .i64 s.lim.f0, .int .i64 s.lim.f1, .int .i64 s.lim.f2, .int .i64 s.lim.f3, .int .i64 s.lim.f4, .int .i64 s.lim.f5, .int .i64 s.lim.f6, .bool false, .slice A s.picks.length c]] w fun e w' => e = .returned (.tuple #[.string (printOf s).1, .int .i64 (printOf s).2]) ∧ Below w.heap.size w w' := by
  have hd : decide (4096 < s.picks.length) = false := decide_eq_false hm
  have hd2 : decide (((s.picks.length : Nat) : Int) > 4096) = false := decide_eq_false (by omega)
  have HP : Aside0 (printOf s = match linesFrom (headOf s) s.picks with
    | some t => (t, 0)
    | none => (⟨#[]⟩, 171)) := ⟨if_neg hm⟩
  generalize printOf s = ro at HP ⊢
  have HM := Aside0.mk hm
  have HR := Aside0.mk hr
  have HRG := Aside0.mk hrg
  have HHL := Aside0.mk (head_len s hrg)
  have b0 : Aside0 ((w.alloc (.cells #[.int .i64 s.lim.f0, .int .i64 s.lim.f1, .int .i64 s.lim.f2, .int .i64 s.lim.f3, .int .i64 s.lim.f4, .int .i64 s.lim.f5, .int .i64 s.lim.f6, .bool false, .slice A s.picks.length c] 26)).heap[w.heap.size]? = some (.cells #[.int .i64 s.lim.f0, .int .i64 s.lim.f1, .int .i64 s.lim.f2, .int .i64 s.lim.f3, .int .i64 s.lim.f4, .int .i64 s.lim.f5, .int .i64 s.lim.f6, .bool false, .slice A s.picks.length c] 26 (0, 0))) := ⟨heap_alloc_new w _⟩
  have HB := Aside0.mk (bel1 w (.cells #[.int .i64 s.lim.f0, .int .i64 s.lim.f1, .int .i64 s.lim.f2, .int .i64 s.lim.f3, .int .i64 s.lim.f4, .int .i64 s.lim.f5, .int .i64 s.lim.f6, .bool false, .slice A s.picks.length c] 26))
  clear hr hrg hm
  have x0 : (w.alloc (.cells #[.int .i64 s.lim.f0, .int .i64 s.lim.f1, .int .i64 s.lim.f2, .int .i64 s.lim.f3, .int .i64 s.lim.f4, .int .i64 s.lim.f5, .int .i64 s.lim.f6, .bool false, .slice A s.picks.length c] 26)).cell? ⟨w.heap.size, 0, none⟩ = some (.int .i64 s.lim.f0) := (blk_cell b0.out 0).trans rfl
  have x1 : (w.alloc (.cells #[.int .i64 s.lim.f0, .int .i64 s.lim.f1, .int .i64 s.lim.f2, .int .i64 s.lim.f3, .int .i64 s.lim.f4, .int .i64 s.lim.f5, .int .i64 s.lim.f6, .bool false, .slice A s.picks.length c] 26)).cell? ⟨w.heap.size, 1, none⟩ = some (.int .i64 s.lim.f1) := (blk_cell b0.out 1).trans rfl
  have x2 : (w.alloc (.cells #[.int .i64 s.lim.f0, .int .i64 s.lim.f1, .int .i64 s.lim.f2, .int .i64 s.lim.f3, .int .i64 s.lim.f4, .int .i64 s.lim.f5, .int .i64 s.lim.f6, .bool false, .slice A s.picks.length c] 26)).cell? ⟨w.heap.size, 2, none⟩ = some (.int .i64 s.lim.f2) := (blk_cell b0.out 2).trans rfl
  have x3 : (w.alloc (.cells #[.int .i64 s.lim.f0, .int .i64 s.lim.f1, .int .i64 s.lim.f2, .int .i64 s.lim.f3, .int .i64 s.lim.f4, .int .i64 s.lim.f5, .int .i64 s.lim.f6, .bool false, .slice A s.picks.length c] 26)).cell? ⟨w.heap.size, 3, none⟩ = some (.int .i64 s.lim.f3) := (blk_cell b0.out 3).trans rfl
  have x4 : (w.alloc (.cells #[.int .i64 s.lim.f0, .int .i64 s.lim.f1, .int .i64 s.lim.f2, .int .i64 s.lim.f3, .int .i64 s.lim.f4, .int .i64 s.lim.f5, .int .i64 s.lim.f6, .bool false, .slice A s.picks.length c] 26)).cell? ⟨w.heap.size, 4, none⟩ = some (.int .i64 s.lim.f4) := (blk_cell b0.out 4).trans rfl
  have x5 : (w.alloc (.cells #[.int .i64 s.lim.f0, .int .i64 s.lim.f1, .int .i64 s.lim.f2, .int .i64 s.lim.f3, .int .i64 s.lim.f4, .int .i64 s.lim.f5, .int .i64 s.lim.f6, .bool false, .slice A s.picks.length c] 26)).cell? ⟨w.heap.size, 5, none⟩ = some (.int .i64 s.lim.f5) := (blk_cell b0.out 5).trans rfl
  have x6 : (w.alloc (.cells #[.int .i64 s.lim.f0, .int .i64 s.lim.f1, .int .i64 s.lim.f2, .int .i64 s.lim.f3, .int .i64 s.lim.f4, .int .i64 s.lim.f5, .int .i64 s.lim.f6, .bool false, .slice A s.picks.length c] 26)).cell? ⟨w.heap.size, 6, none⟩ = some (.int .i64 s.lim.f6) := (blk_cell b0.out 6).trans rfl
  have x8 : (w.alloc (.cells #[.int .i64 s.lim.f0, .int .i64 s.lim.f1, .int .i64 s.lim.f2, .int .i64 s.lim.f3, .int .i64 s.lim.f4, .int .i64 s.lim.f5, .int .i64 s.lim.f6, .bool false, .slice A s.picks.length c] 26)).cell? ⟨w.heap.size, 8, none⟩ = some (.slice A s.picks.length c) := (blk_cell b0.out 8).trans rfl
  go_enter Tryd.func8, Tryd.ntmps8
  go_upto_region 3 with (fail)
  obtain ⟨g0, hg0⟩ : ∃ k, k = w.heap.size := ⟨_, rfl⟩
  rw [← hg0] at b0 x0 x1 x2 x3 x4 x5 x6 ⊢
  generalize w.alloc (.cells #[.int .i64 s.lim.f0, .int .i64 s.lim.f1, .int .i64 s.lim.f2, .int .i64 s.lim.f3, .int .i64 s.lim.f4, .int .i64 s.lim.f5, .int .i64 s.lim.f6, .bool false, .slice A s.picks.length c] 26) = w1 at b0 HB x0 x1 x2 x3 x4 x5 x6 ⊢
  clear hg0 x8
  go_upto_region 4 with (fail)
  clear x0 x1 x2 x3 x4 x5 x6
  have LCB : Aside0 ((w1.alloc (.cells #[.int .i64 s.lim.f0, .int .i64 s.lim.f1, .int .i64 s.lim.f2, .int .i64 s.lim.f3, .int .i64 s.lim.f4, .int .i64 s.lim.f5, .int .i64 s.lim.f6] 23)).heap[w1.heap.size]? = some (.cells #[.int .i64 s.lim.f0, .int .i64 s.lim.f1, .int .i64 s.lim.f2, .int .i64 s.lim.f3, .int .i64 s.lim.f4, .int .i64 s.lim.f5, .int .i64 s.lim.f6] 23 (0, 0))) := ⟨heap_alloc_new _ _⟩
  have n1_ := Aside0.mk (below_step HB.out (bel1 w1 (.cells #[.int .i64 s.lim.f0, .int .i64 s.lim.f1, .int .i64 s.lim.f2, .int .i64 s.lim.f3, .int .i64 s.lim.f4, .int .i64 s.lim.f5, .int .i64 s.lim.f6] 23)))
  have n2_ := Aside0.mk (blk_below b0.out (bel1 w1 (.cells #[.int .i64 s.lim.f0, .int .i64 s.lim.f1, .int .i64 s.lim.f2, .int .i64 s.lim.f3, .int .i64 s.lim.f4, .int .i64 s.lim.f5, .int .i64 s.lim.f6] 23)))
  generalize w1.alloc (.cells #[.int .i64 s.lim.f0, .int .i64 s.lim.f1, .int .i64 s.lim.f2, .int .i64 s.lim.f3, .int .i64 s.lim.f4, .int .i64 s.lim.f5, .int .i64 s.lim.f6] 23) = w2 at LCB n1_ n2_ ⊢
  generalize w1.heap.size = gl at LCB ⊢
  have y0 : w2.cell? ⟨gl, 0, none⟩ = some (.int .i64 s.lim.f0) := (blk_cell LCB.out 0).trans rfl
  have y1 : w2.cell? ⟨gl, 1, none⟩ = some (.int .i64 s.lim.f1) := (blk_cell LCB.out 1).trans rfl
  have y2 : w2.cell? ⟨gl, 2, none⟩ = some (.int .i64 s.lim.f2) := (blk_cell LCB.out 2).trans rfl
  have y3 : w2.cell? ⟨gl, 3, none⟩ = some (.int .i64 s.lim.f3) := (blk_cell LCB.out 3).trans rfl
  have y4 : w2.cell? ⟨gl, 4, none⟩ = some (.int .i64 s.lim.f4) := (blk_cell LCB.out 4).trans rfl
  have y5 : w2.cell? ⟨gl, 5, none⟩ = some (.int .i64 s.lim.f5) := (blk_cell LCB.out 5).trans rfl
  have y6 : w2.cell? ⟨gl, 6, none⟩ = some (.int .i64 s.lim.f6) := (blk_cell LCB.out 6).trans rfl
  have GS : Aside0 ((w2.alloc (.cells #[.int .i64 s.lim.f0, .int .i64 s.lim.f1, .int .i64 s.lim.f2, .int .i64 s.lim.f3, .int .i64 s.lim.f4, .int .i64 s.lim.f5, .int .i64 s.lim.f6] 3)).heap[w2.heap.size]? = some (.cells ((limL s.lim).map (Value.int .i64)).toArray 3 (0, 0))) := ⟨heap_alloc_new _ _⟩
  have m1_ := Aside0.mk (below_step n1_.out (bel1 w2 (.cells #[.int .i64 s.lim.f0, .int .i64 s.lim.f1, .int .i64 s.lim.f2, .int .i64 s.lim.f3, .int .i64 s.lim.f4, .int .i64 s.lim.f5, .int .i64 s.lim.f6] 3)))
  have m2_ := Aside0.mk (blk_below n2_.out (bel1 w2 (.cells #[.int .i64 s.lim.f0, .int .i64 s.lim.f1, .int .i64 s.lim.f2, .int .i64 s.lim.f3, .int .i64 s.lim.f4, .int .i64 s.lim.f5, .int .i64 s.lim.f6] 3)))
  go_upto_region 5 with (fail)
  generalize w2.alloc (.cells #[.int .i64 s.lim.f0, .int .i64 s.lim.f1, .int .i64 s.lim.f2, .int .i64 s.lim.f3, .int .i64 s.lim.f4, .int .i64 s.lim.f5, .int .i64 s.lim.f6] 3) = w3 at GS m1_ m2_ ⊢
  generalize w2.heap.size = gs at GS ⊢
  clear HB b0 y0 y1 y2 y3 y4 y5 y6 LCB n1_ n2_ hd hd2
  have HB := m1_
  have b0 := m2_
  clear m1_ m2_
  go_wp2_with (fail)
  go_loopw [6, 7] (fun v6 v7 wr => ∃ j : Nat, v7 = .int .i64 j ∧ j ≤ 7 ∧ v6 = .string (spAll ⟨#[108, 105, 109, 105, 116, 115]⟩ ((limL s.lim).take j)) ∧ Aside0 (Below w.heap.size w wr) ∧ Aside0 (wr.heap[g0]? = some (.cells #[.int .i64 s.lim.f0, .int .i64 s.lim.f1, .int .i64 s.lim.f2, .int .i64 s.lim.f3, .int .i64 s.lim.f4, .int .i64 s.lim.f5, .int .i64 s.lim.f6, .bool false, .slice A s.picks.length c] 26 (0, 0))) ∧ Aside0 (wr.heap[gs]? = some (.cells ((limL s.lim).map (Value.int .i64)).toArray 3 (0, 0)))) (fun _ v7 _ => 7 - (intOf v7).toNat)
  case atStart => exact ⟨0, rfl, by omega, rfl, HB, b0, GS⟩
  case round =>
    clear HB b0 GS
    obtain ⟨j, rfl, hj, rfl, HB, b0, GS⟩ := hrel
    by_cases hlt : j < 7
    · obtain ⟨n, hn⟩ : ∃ n, (limL s.lim)[j]? = some n := ⟨_, List.getElem?_eq_getElem hlt⟩
      have x0 : wr.cell? ⟨gs, j, none⟩ = some (.int .i64 n) := by rw [blk_cell GS.out j]; simp [hn]
      have HON := Aside0.mk (HRG.out.1 n (List.mem_of_getElem? hn))
      have HTX : Aside0 (spAll ⟨#[108, 105, 109, 105, 116, 115]⟩ ((limL s.lim).take (j + 1)) = spAll ⟨#[108, 105, 109, 105, 116, 115]⟩ ((limL s.lim).take j) ++ spI n) := ⟨by rw [List.take_add_one, hn]; exact spAll_snoc _ _ _⟩
      have z1 := itoa_len n HON.out
      have z3 := spAll_len ((limL s.lim).take j) ⟨#[108, 105, 109, 105, 116, 115]⟩ (fun q hq => HRG.out.1 q (List.mem_of_mem_take hq))
      have hz3 : (spAll ⟨#[108, 105, 109, 105, 116, 115]⟩ ((limL s.lim).take j)).size ≤ 200 := by
        have e6 : (⟨#[108, 105, 109, 105, 116, 115]⟩ : ByteArray).size = 6 := rfl
        have : ((limL s.lim).take j).length ≤ 7 := by rw [List.length_take]; omega
        omega
      clear hn z3
      generalize spAll ⟨#[108, 105, 109, 105, 116, 115]⟩ ((limL s.lim).take j) = acc at HTX hz3 ⊢
      go_wp2_with (go_at_call 16; refine (digits_any n HON.out _).mono ?_; rintro e w4 ⟨rfl, hb⟩; have n1_ := Aside0.mk (below_step HB.out hb); have n2_ := Aside0.mk (blk_below b0.out hb); have n3_ := Aside0.mk (blk_below GS.out hb); clear hb HB b0 GS; have HB := n1_; have b0 := n2_; have GS := n3_; clear n1_ n2_ n3_)
      go_roundw
      case rel => exact ⟨j + 1, by go_num, by omega, congrArg Value.string (by rw [HTX.out, spI, ByteArray.append_assoc]), HB, b0, GS⟩
      case measure => simp [intOf]; omega
    · obtain rfl : j = 7 := by omega
      obtain ⟨w14, rfl⟩ : ∃ w14 : World, w14 = wr := ⟨_, rfl⟩
      rw [show (limL s.lim).take 7 = limL s.lim from rfl, show (((7 : Nat) : Int)) = (7 : Int) from rfl]
      have HZ : (spAll ⟨#[108, 105, 109, 105, 116, 115]⟩ (limL s.lim)).size ≤ 194 := by
        have h := HHL.out
        unfold headOf at h
        rw [size_append, size_append] at h
        have e1 : (⟨#[10]⟩ : ByteArray).size = 1 := rfl
        have e5 : (reapT s.reap).size = 5 := by unfold reapT; cases s.reap <;> rfl
        omega
      have HE : Aside0 (headOf s = spAll ⟨#[108, 105, 109, 105, 116, 115]⟩ (limL s.lim) ++ ⟨#[10]⟩ ++ reapT s.reap) := ⟨rfl⟩
      generalize spAll ⟨#[108, 105, 109, 105, 116, 115]⟩ (limL s.lim) = hd at HZ HE ⊢
      have x7 : w14.cell? ⟨g0, 7, none⟩ = some (.bool false) := (blk_cell b0.out 7).trans rfl
      clear GS hlt hj
      rw [hrp] at HE
      clear hrp
      go_upto_region 14 with (fail)
      obtain ⟨wc, rfl⟩ : ∃ z : World, z = w14 := ⟨_, rfl⟩
      have HE2 : hd ++ ⟨#[10]⟩ ++ ⟨#[107, 101, 101, 112, 10]⟩ = headOf s := HE.out.symm
      rw [HE2]
      clear HE HZ x7 HE2
      have GN : Aside0 ((wc.alloc (.cells #[.string ⟨#[]⟩, .string ⟨#[115, 116, 101, 112]⟩, .string ⟨#[105, 110]⟩, .string ⟨#[111, 117, 116]⟩, .string ⟨#[112, 114, 111, 98, 101]⟩] 9)).heap[wc.heap.size]? = some (.cells #[.string ⟨#[]⟩, .string ⟨#[115, 116, 101, 112]⟩, .string ⟨#[105, 110]⟩, .string ⟨#[111, 117, 116]⟩, .string ⟨#[112, 114, 111, 98, 101]⟩] 9 (0, 0))) := ⟨heap_alloc_new _ _⟩
      have n1_ := Aside0.mk (below_step HB.out (bel1 wc (.cells #[.string ⟨#[]⟩, .string ⟨#[115, 116, 101, 112]⟩, .string ⟨#[105, 110]⟩, .string ⟨#[111, 117, 116]⟩, .string ⟨#[112, 114, 111, 98, 101]⟩] 9)))
      have n2_ := Aside0.mk (blk_below b0.out (bel1 wc (.cells #[.string ⟨#[]⟩, .string ⟨#[115, 116, 101, 112]⟩, .string ⟨#[105, 110]⟩, .string ⟨#[111, 117, 116]⟩, .string ⟨#[112, 114, 111, 98, 101]⟩] 9)))
      go_upto_region 15 with (fail)
      generalize wc.alloc (.cells #[.string ⟨#[]⟩, .string ⟨#[115, 116, 101, 112]⟩, .string ⟨#[105, 110]⟩, .string ⟨#[111, 117, 116]⟩, .string ⟨#[112, 114, 111, 98, 101]⟩] 9) = w5 at GN n1_ n2_ ⊢
      generalize wc.heap.size = gn at GN ⊢
      clear HB b0
      have HB := n1_
      have b0 := n2_
      clear n1_ n2_
      go_wp2_with (fail)
      go_loopw [6, 9] (fun v6 v9 wr => ∃ (j : Nat) (acc : ByteArray), v9 = .int .i64 j ∧ v6 = .string acc ∧ j ≤ s.picks.length ∧ Aside0 (acc.size ≤ 200 + 60 * j) ∧ Aside0 (ro = match linesFrom acc (s.picks.drop j) with | some t => (t, 0) | none => (⟨#[]⟩, 171)) ∧ Aside0 (Below w.heap.size w wr) ∧ Aside0 (wr.heap[g0]? = some (.cells #[.int .i64 s.lim.f0, .int .i64 s.lim.f1, .int .i64 s.lim.f2, .int .i64 s.lim.f3, .int .i64 s.lim.f4, .int .i64 s.lim.f5, .int .i64 s.lim.f6, .bool false, .slice A s.picks.length c] 26 (0, 0))) ∧ Aside0 (wr.heap[gn]? = some (.cells #[.string ⟨#[]⟩, .string ⟨#[115, 116, 101, 112]⟩, .string ⟨#[105, 110]⟩, .string ⟨#[111, 117, 116]⟩, .string ⟨#[112, 114, 111, 98, 101]⟩] 9 (0, 0)))) (fun _ v9 _ => s.picks.length - (intOf v9).toNat)
      case atStart => exact ⟨0, headOf s, rfl, rfl, by omega, ⟨by have := HHL.out; omega⟩, HP, HB, b0, GN⟩
      case round =>
        clear HB b0 GN HP
        obtain ⟨j, acc, rfl, rfl, hj, HA, HP, HB, b0, GN⟩ := hrel
        obtain ⟨wr2, rfl⟩ : ∃ z : World, z = wr := ⟨_, rfl⟩
        have hm := HM.out
        have y8 : wr2.cell? ⟨g0, 8, none⟩ = some (.slice A s.picks.length c) := (blk_cell b0.out 8).trans rfl
        by_cases hlt : j < s.picks.length
        · obtain ⟨p, hp⟩ : ∃ p, s.picks[j]? = some p := ⟨_, List.getElem?_eq_getElem hlt⟩
          obtain ⟨ad, hA, x0, x1, x2⟩ := at_T29 HR.out (j : Int) (by omega) (by omega)
          have hel : rd_T29 s.picks j = p := by
            unfold rd_T29
            rw [Int.toNat_natCast, List.getD_eq_getElem?_getD, hp]
            rfl
          rw [hel, Int.toNat_natCast] at x0 x1 x2
          obtain ⟨f0, n, v⟩ := p
          dsimp only at x0 x1 x2
          replace x0 := pw_cell_below HB.out x0
          replace x1 := pw_cell_below HB.out x1
          replace x2 := pw_cell_below HB.out x2
          have HON : Aside0 (okN n ∧ okN v) := ⟨HRG.out.2 _ (List.mem_of_getElem? hp)⟩
          have HDR : Aside0 (s.picks.drop j = ⟨f0, n, v⟩ :: s.picks.drop (j + 1)) := ⟨by obtain ⟨hl, he⟩ := List.getElem?_eq_some_iff.1 hp; rw [← he]; exact List.drop_eq_getElem_cons hl⟩
          have BP := Aside0.mk (heap_alloc_new wr2 (.cells #[.int .i64 f0, .int .i64 n, .int .i64 v] 29))
          have n1_ := Aside0.mk (below_step HB.out (bel1 wr2 (.cells #[.int .i64 f0, .int .i64 n, .int .i64 v] 29)))
          have n2_ := Aside0.mk (blk_below b0.out (bel1 wr2 (.cells #[.int .i64 f0, .int .i64 n, .int .i64 v] 29)))
          have n3_ := Aside0.mk (blk_below GN.out (bel1 wr2 (.cells #[.int .i64 f0, .int .i64 n, .int .i64 v] 29)))
          subst hA
          clear hp hel
          go_upto_region 19 with (fail)
          generalize wr2.alloc (.cells #[.int .i64 f0, .int .i64 n, .int .i64 v] 29) = w6 at BP n1_ n2_ n3_ ⊢
          generalize wr2.heap.size = gp at BP ⊢
          clear HB b0 GN x0 x1 x2 y8
          have HB := n1_
          have b0 := n2_
          have GN := n3_
          clear n1_ n2_ n3_
          have y0 : w6.cell? ⟨gp, 0, none⟩ = some (.int .i64 f0) := (blk_cell BP.out 0).trans rfl
          have y1 : w6.cell? ⟨gp, 1, none⟩ = some (.int .i64 n) := (blk_cell BP.out 1).trans rfl
          have y2 : w6.cell? ⟨gp, 2, none⟩ = some (.int .i64 v) := (blk_cell BP.out 2).trans rfl
          have zn := itoa_len n HON.out.1
          have zv := itoa_len v HON.out.2
          have za : acc.size ≤ 300000 := by have := HA.out; omega
          by_cases c1 : f0 < 1
          · have e1 : decide (f0 < 1) = true := decide_eq_true c1
            have HR2 : Aside0 (ro = (⟨#[]⟩, 171)) := ⟨by rw [HP.out, HDR.out, lines_none (by simp only [lineP, lineT]; rw [if_neg (by omega), if_neg (by omega), if_neg (by omega), if_neg (by omega)])]⟩
            clear HP HDR
            go_wp2_with (fail)
            go_ret2
            rw [HR2.out]
            exact ⟨rfl, HB.out⟩
          have e1 : decide (f0 < 1) = false := decide_eq_false c1
          by_cases c4 : f0 > 4
          · have e4 : decide (f0 > 4) = true := decide_eq_true c4
            have e5 : decide (4 < f0) = true := decide_eq_true c4
            have HR2 : Aside0 (ro = (⟨#[]⟩, 171)) := ⟨by rw [HP.out, HDR.out, lines_none (by simp only [lineP, lineT]; rw [if_neg (by omega), if_neg (by omega), if_neg (by omega), if_neg (by omega)])]⟩
            clear HP HDR
            go_wp2_with (fail)
            go_ret2
            rw [HR2.out]
            exact ⟨rfl, HB.out⟩
          have hk : f0 = 1 ∨ f0 = 2 ∨ f0 = 3 ∨ f0 = 4 := by omega
          clear c1 c4 e1
          rcases hk with rfl | rfl | rfl | rfl
          · by_cases hv : v = 0
            · subst hv
              have hL : lineP ⟨1, n, 0⟩ = some (⟨#[115, 116, 101, 112]⟩ ++ spI n) := rfl
              have HLN := Aside0.mk (lineP_len _ (by first | exact HON.out.1 | exact ⟨by decide, by decide⟩) (by first | exact HON.out.2 | exact ⟨by decide, by decide⟩) _ hL)
              have HAS : Aside0 (acc ++ ((⟨#[115, 116, 101, 112]⟩ ++ spI n) ++ ⟨#[10]⟩) = ((((acc ++ ⟨#[115, 116, 101, 112]⟩) ++ ⟨#[32]⟩) ++ itoaB n) ++ ⟨#[10]⟩)) := ⟨by simp only [spI, ByteArray.append_assoc]⟩
              have HR2 : Aside0 (ro = match linesFrom ((((acc ++ ⟨#[115, 116, 101, 112]⟩) ++ ⟨#[32]⟩) ++ itoaB n) ++ ⟨#[10]⟩) (s.picks.drop (j + 1)) with | some t => (t, 0) | none => (⟨#[]⟩, 171)) := ⟨by rw [HP.out, HDR.out, lines_some hL, HAS.out]⟩
              have HSZ : Aside0 (((((acc ++ ⟨#[115, 116, 101, 112]⟩) ++ ⟨#[32]⟩) ++ itoaB n) ++ ⟨#[10]⟩).size ≤ 200 + 60 * (j + 1)) := ⟨by rw [← HAS.out, size_append, size_append]; have h1 := HLN.out; have h2 := HA.out; have e1 : (⟨#[10]⟩ : ByteArray).size = 1 := rfl; omega⟩
              have x4 : w6.cell? ⟨gn, 1, none⟩ = some (.string ⟨#[115, 116, 101, 112]⟩) := (blk_cell GN.out 1).trans rfl
              clear HP HDR hL HAS HLN
              have PM1 := Aside0.mk True.intro
              go_wp2_with (first
                | (go_at_call 16; clear PM1; refine (digits_any n HON.out.1 _).mono ?_; rintro e w7 ⟨rfl, hb⟩; have n1_ := Aside0.mk (below_step HB.out hb); have n2_ := Aside0.mk (blk_below b0.out hb); have n3_ := Aside0.mk (blk_below GN.out hb); have n4_ := Aside0.mk (blk_below BP.out hb); clear hb HB b0 GN BP; have HB := n1_; have b0 := n2_; have GN := n3_; have BP := n4_; clear n1_ n2_ n3_ n4_; have q0 : w7.cell? ⟨gp, 0, none⟩ = some (.int .i64 1) := (blk_cell BP.out 0).trans rfl; have q2 : w7.cell? ⟨gp, 2, none⟩ = some (.int .i64 0) := (blk_cell BP.out 2).trans rfl))
              go_roundw
              case rel => exact ⟨j + 1, _, by go_num, rfl, by omega, HSZ, HR2, HB, b0, GN⟩
              case measure => simp [intOf]; omega
            · have e2 : (v == 0) = false := beq_eq_false_iff_ne.2 hv
              have HR2 : Aside0 (ro = (⟨#[]⟩, 171)) := ⟨by rw [HP.out, HDR.out, lines_none (by simp [lineP, lineT, hv])]⟩
              clear HP HDR
              go_wp2_with (fail)
              go_ret2
              rw [HR2.out]
              exact ⟨rfl, HB.out⟩
          · have hL : lineP ⟨2, n, v⟩ = some (⟨#[105, 110]⟩ ++ spI n ++ spI v) := rfl
            have HLN := Aside0.mk (lineP_len _ (by first | exact HON.out.1 | exact ⟨by decide, by decide⟩) (by first | exact HON.out.2 | exact ⟨by decide, by decide⟩) _ hL)
            have HAS : Aside0 (acc ++ ((⟨#[105, 110]⟩ ++ spI n ++ spI v) ++ ⟨#[10]⟩) = ((((((acc ++ ⟨#[105, 110]⟩) ++ ⟨#[32]⟩) ++ itoaB n) ++ ⟨#[32]⟩) ++ itoaB v) ++ ⟨#[10]⟩)) := ⟨by simp only [spI, ByteArray.append_assoc]⟩
            have HR2 : Aside0 (ro = match linesFrom ((((((acc ++ ⟨#[105, 110]⟩) ++ ⟨#[32]⟩) ++ itoaB n) ++ ⟨#[32]⟩) ++ itoaB v) ++ ⟨#[10]⟩) (s.picks.drop (j + 1)) with | some t => (t, 0) | none => (⟨#[]⟩, 171)) := ⟨by rw [HP.out, HDR.out, lines_some hL, HAS.out]⟩
            have HSZ : Aside0 (((((((acc ++ ⟨#[105, 110]⟩) ++ ⟨#[32]⟩) ++ itoaB n) ++ ⟨#[32]⟩) ++ itoaB v) ++ ⟨#[10]⟩).size ≤ 200 + 60 * (j + 1)) := ⟨by rw [← HAS.out, size_append, size_append]; have h1 := HLN.out; have h2 := HA.out; have e1 : (⟨#[10]⟩ : ByteArray).size = 1 := rfl; omega⟩
            have x4 : w6.cell? ⟨gn, 2, none⟩ = some (.string ⟨#[105, 110]⟩) := (blk_cell GN.out 2).trans rfl
            clear HP HDR hL HAS HLN
            have PM1 := Aside0.mk True.intro
            go_wp2_with (first
              | (go_at_call 16; clear PM1; refine (digits_any n HON.out.1 _).mono ?_; rintro e w7 ⟨rfl, hb⟩; have n1_ := Aside0.mk (below_step HB.out hb); have n2_ := Aside0.mk (blk_below b0.out hb); have n3_ := Aside0.mk (blk_below GN.out hb); have n4_ := Aside0.mk (blk_below BP.out hb); clear hb HB b0 GN BP; have HB := n1_; have b0 := n2_; have GN := n3_; have BP := n4_; clear n1_ n2_ n3_ n4_; have q0 : w7.cell? ⟨gp, 0, none⟩ = some (.int .i64 2) := (blk_cell BP.out 0).trans rfl; have q2 : w7.cell? ⟨gp, 2, none⟩ = some (.int .i64 v) := (blk_cell BP.out 2).trans rfl)
              | (go_at_call 16; refine (digits_any v HON.out.2 _).mono ?_; rintro e w8 ⟨rfl, hb⟩; have n1_ := Aside0.mk (below_step HB.out hb); have n2_ := Aside0.mk (blk_below b0.out hb); have n3_ := Aside0.mk (blk_below GN.out hb); have n4_ := Aside0.mk (blk_below BP.out hb); clear hb HB b0 GN BP; have HB := n1_; have b0 := n2_; have GN := n3_; have BP := n4_; clear n1_ n2_ n3_ n4_; have q0 : w8.cell? ⟨gp, 0, none⟩ = some (.int .i64 2) := (blk_cell BP.out 0).trans rfl; have q2 : w8.cell? ⟨gp, 2, none⟩ = some (.int .i64 v) := (blk_cell BP.out 2).trans rfl))
            go_roundw
            case rel => exact ⟨j + 1, _, by go_num, rfl, by omega, HSZ, HR2, HB, b0, GN⟩
            case measure => simp [intOf]; omega
          · by_cases hv : v = 0
            · subst hv
              have hL : lineP ⟨3, n, 0⟩ = some (⟨#[111, 117, 116]⟩ ++ spI n) := rfl
              have HLN := Aside0.mk (lineP_len _ (by first | exact HON.out.1 | exact ⟨by decide, by decide⟩) (by first | exact HON.out.2 | exact ⟨by decide, by decide⟩) _ hL)
              have HAS : Aside0 (acc ++ ((⟨#[111, 117, 116]⟩ ++ spI n) ++ ⟨#[10]⟩) = ((((acc ++ ⟨#[111, 117, 116]⟩) ++ ⟨#[32]⟩) ++ itoaB n) ++ ⟨#[10]⟩)) := ⟨by simp only [spI, ByteArray.append_assoc]⟩
              have HR2 : Aside0 (ro = match linesFrom ((((acc ++ ⟨#[111, 117, 116]⟩) ++ ⟨#[32]⟩) ++ itoaB n) ++ ⟨#[10]⟩) (s.picks.drop (j + 1)) with | some t => (t, 0) | none => (⟨#[]⟩, 171)) := ⟨by rw [HP.out, HDR.out, lines_some hL, HAS.out]⟩
              have HSZ : Aside0 (((((acc ++ ⟨#[111, 117, 116]⟩) ++ ⟨#[32]⟩) ++ itoaB n) ++ ⟨#[10]⟩).size ≤ 200 + 60 * (j + 1)) := ⟨by rw [← HAS.out, size_append, size_append]; have h1 := HLN.out; have h2 := HA.out; have e1 : (⟨#[10]⟩ : ByteArray).size = 1 := rfl; omega⟩
              have x4 : w6.cell? ⟨gn, 3, none⟩ = some (.string ⟨#[111, 117, 116]⟩) := (blk_cell GN.out 3).trans rfl
              clear HP HDR hL HAS HLN
              have PM1 := Aside0.mk True.intro
              go_wp2_with (first
                | (go_at_call 16; clear PM1; refine (digits_any n HON.out.1 _).mono ?_; rintro e w7 ⟨rfl, hb⟩; have n1_ := Aside0.mk (below_step HB.out hb); have n2_ := Aside0.mk (blk_below b0.out hb); have n3_ := Aside0.mk (blk_below GN.out hb); have n4_ := Aside0.mk (blk_below BP.out hb); clear hb HB b0 GN BP; have HB := n1_; have b0 := n2_; have GN := n3_; have BP := n4_; clear n1_ n2_ n3_ n4_; have q0 : w7.cell? ⟨gp, 0, none⟩ = some (.int .i64 3) := (blk_cell BP.out 0).trans rfl; have q2 : w7.cell? ⟨gp, 2, none⟩ = some (.int .i64 0) := (blk_cell BP.out 2).trans rfl))
              go_roundw
              case rel => exact ⟨j + 1, _, by go_num, rfl, by omega, HSZ, HR2, HB, b0, GN⟩
              case measure => simp [intOf]; omega
            · have e2 : (v == 0) = false := beq_eq_false_iff_ne.2 hv
              have HR2 : Aside0 (ro = (⟨#[]⟩, 171)) := ⟨by rw [HP.out, HDR.out, lines_none (by simp [lineP, lineT, hv])]⟩
              clear HP HDR
              go_wp2_with (fail)
              go_ret2
              rw [HR2.out]
              exact ⟨rfl, HB.out⟩
          · by_cases hv : v = 0
            · subst hv
              by_cases hn : n = 0
              · subst hn
                have hL : lineP ⟨4, 0, 0⟩ = some (⟨#[112, 114, 111, 98, 101]⟩) := rfl
                have HLN := Aside0.mk (lineP_len _ (by first | exact HON.out.1 | exact ⟨by decide, by decide⟩) (by first | exact HON.out.2 | exact ⟨by decide, by decide⟩) _ hL)
                have HAS : Aside0 (acc ++ ((⟨#[112, 114, 111, 98, 101]⟩) ++ ⟨#[10]⟩) = ((acc ++ ⟨#[112, 114, 111, 98, 101]⟩) ++ ⟨#[10]⟩)) := ⟨by simp only [spI, ByteArray.append_assoc]⟩
                have HR2 : Aside0 (ro = match linesFrom ((acc ++ ⟨#[112, 114, 111, 98, 101]⟩) ++ ⟨#[10]⟩) (s.picks.drop (j + 1)) with | some t => (t, 0) | none => (⟨#[]⟩, 171)) := ⟨by rw [HP.out, HDR.out, lines_some hL, HAS.out]⟩
                have HSZ : Aside0 (((acc ++ ⟨#[112, 114, 111, 98, 101]⟩) ++ ⟨#[10]⟩).size ≤ 200 + 60 * (j + 1)) := ⟨by rw [← HAS.out, size_append, size_append]; have h1 := HLN.out; have h2 := HA.out; have e1 : (⟨#[10]⟩ : ByteArray).size = 1 := rfl; omega⟩
                have x4 : w6.cell? ⟨gn, 4, none⟩ = some (.string ⟨#[112, 114, 111, 98, 101]⟩) := (blk_cell GN.out 4).trans rfl
                clear HP HDR hL HAS HLN
                go_wp2_with (fail)
                go_roundw
                case rel => exact ⟨j + 1, _, by go_num, rfl, by omega, HSZ, HR2, HB, b0, GN⟩
                case measure => simp [intOf]; omega
              · have e2 : (n == 0) = false := beq_eq_false_iff_ne.2 hn
                have HR2 : Aside0 (ro = (⟨#[]⟩, 171)) := ⟨by rw [HP.out, HDR.out, lines_none (by simp [lineP, lineT, hn])]⟩
                clear HP HDR
                go_wp2_with (fail)
                go_ret2
                rw [HR2.out]
                exact ⟨rfl, HB.out⟩
            · have e2 : (v == 0) = false := beq_eq_false_iff_ne.2 hv
              have HR2 : Aside0 (ro = (⟨#[]⟩, 171)) := ⟨by rw [HP.out, HDR.out, lines_none (by simp [lineP, lineT, hv])]⟩
              clear HP HDR
              go_wp2_with (fail)
              go_ret2
              rw [HR2.out]
              exact ⟨rfl, HB.out⟩
        · obtain rfl : j = s.picks.length := by omega
          have HR2 : Aside0 (ro = (acc, 0)) := ⟨by rw [HP.out, List.drop_length]; rfl⟩
          go_wp2_with (fail)
          go_ret2
          rw [HR2.out]
          exact ⟨rfl, HB.out⟩
set_option maxRecDepth 100000 in
set_option maxHeartbeats 16000000 in
theorem refp_few_true (A : Option Addr) (c : Nat) (s : Scr) (w : World) (hr : Kd.C k29 w A s.picks.length s.picks) (hrg : rngS s) (hm : ¬ 4096 < s.picks.length) (hrp : s.reap = true) :
    Calls Tryd.prog 8 #[.agg #[.int .i64 s.lim.f0, .int .i64 s.lim.f1, .int .i64 s.lim.f2, .int .i64 s.lim.f3, .int .i64 s.lim.f4, .int .i64 s.lim.f5, .int .i64 s.lim.f6, .bool true, .slice A s.picks.length c]] w fun e w' => e = .returned (.tuple #[.string (printOf s).1, .int .i64 (printOf s).2]) ∧ Below w.heap.size w w' := by
  have hd : decide (4096 < s.picks.length) = false := decide_eq_false hm
  have hd2 : decide (((s.picks.length : Nat) : Int) > 4096) = false := decide_eq_false (by omega)
  have HP : Aside0 (printOf s = match linesFrom (headOf s) s.picks with
    | some t => (t, 0)
    | none => (⟨#[]⟩, 171)) := ⟨if_neg hm⟩
  generalize printOf s = ro at HP ⊢
  have HM := Aside0.mk hm
  have HR := Aside0.mk hr
  have HRG := Aside0.mk hrg
  have HHL := Aside0.mk (head_len s hrg)
  have b0 : Aside0 ((w.alloc (.cells #[.int .i64 s.lim.f0, .int .i64 s.lim.f1, .int .i64 s.lim.f2, .int .i64 s.lim.f3, .int .i64 s.lim.f4, .int .i64 s.lim.f5, .int .i64 s.lim.f6, .bool true, .slice A s.picks.length c] 26)).heap[w.heap.size]? = some (.cells #[.int .i64 s.lim.f0, .int .i64 s.lim.f1, .int .i64 s.lim.f2, .int .i64 s.lim.f3, .int .i64 s.lim.f4, .int .i64 s.lim.f5, .int .i64 s.lim.f6, .bool true, .slice A s.picks.length c] 26 (0, 0))) := ⟨heap_alloc_new w _⟩
  have HB := Aside0.mk (bel1 w (.cells #[.int .i64 s.lim.f0, .int .i64 s.lim.f1, .int .i64 s.lim.f2, .int .i64 s.lim.f3, .int .i64 s.lim.f4, .int .i64 s.lim.f5, .int .i64 s.lim.f6, .bool true, .slice A s.picks.length c] 26))
  clear hr hrg hm
  have x0 : (w.alloc (.cells #[.int .i64 s.lim.f0, .int .i64 s.lim.f1, .int .i64 s.lim.f2, .int .i64 s.lim.f3, .int .i64 s.lim.f4, .int .i64 s.lim.f5, .int .i64 s.lim.f6, .bool true, .slice A s.picks.length c] 26)).cell? ⟨w.heap.size, 0, none⟩ = some (.int .i64 s.lim.f0) := (blk_cell b0.out 0).trans rfl
  have x1 : (w.alloc (.cells #[.int .i64 s.lim.f0, .int .i64 s.lim.f1, .int .i64 s.lim.f2, .int .i64 s.lim.f3, .int .i64 s.lim.f4, .int .i64 s.lim.f5, .int .i64 s.lim.f6, .bool true, .slice A s.picks.length c] 26)).cell? ⟨w.heap.size, 1, none⟩ = some (.int .i64 s.lim.f1) := (blk_cell b0.out 1).trans rfl
  have x2 : (w.alloc (.cells #[.int .i64 s.lim.f0, .int .i64 s.lim.f1, .int .i64 s.lim.f2, .int .i64 s.lim.f3, .int .i64 s.lim.f4, .int .i64 s.lim.f5, .int .i64 s.lim.f6, .bool true, .slice A s.picks.length c] 26)).cell? ⟨w.heap.size, 2, none⟩ = some (.int .i64 s.lim.f2) := (blk_cell b0.out 2).trans rfl
  have x3 : (w.alloc (.cells #[.int .i64 s.lim.f0, .int .i64 s.lim.f1, .int .i64 s.lim.f2, .int .i64 s.lim.f3, .int .i64 s.lim.f4, .int .i64 s.lim.f5, .int .i64 s.lim.f6, .bool true, .slice A s.picks.length c] 26)).cell? ⟨w.heap.size, 3, none⟩ = some (.int .i64 s.lim.f3) := (blk_cell b0.out 3).trans rfl
  have x4 : (w.alloc (.cells #[.int .i64 s.lim.f0, .int .i64 s.lim.f1, .int .i64 s.lim.f2, .int .i64 s.lim.f3, .int .i64 s.lim.f4, .int .i64 s.lim.f5, .int .i64 s.lim.f6, .bool true, .slice A s.picks.length c] 26)).cell? ⟨w.heap.size, 4, none⟩ = some (.int .i64 s.lim.f4) := (blk_cell b0.out 4).trans rfl
  have x5 : (w.alloc (.cells #[.int .i64 s.lim.f0, .int .i64 s.lim.f1, .int .i64 s.lim.f2, .int .i64 s.lim.f3, .int .i64 s.lim.f4, .int .i64 s.lim.f5, .int .i64 s.lim.f6, .bool true, .slice A s.picks.length c] 26)).cell? ⟨w.heap.size, 5, none⟩ = some (.int .i64 s.lim.f5) := (blk_cell b0.out 5).trans rfl
  have x6 : (w.alloc (.cells #[.int .i64 s.lim.f0, .int .i64 s.lim.f1, .int .i64 s.lim.f2, .int .i64 s.lim.f3, .int .i64 s.lim.f4, .int .i64 s.lim.f5, .int .i64 s.lim.f6, .bool true, .slice A s.picks.length c] 26)).cell? ⟨w.heap.size, 6, none⟩ = some (.int .i64 s.lim.f6) := (blk_cell b0.out 6).trans rfl
  have x8 : (w.alloc (.cells #[.int .i64 s.lim.f0, .int .i64 s.lim.f1, .int .i64 s.lim.f2, .int .i64 s.lim.f3, .int .i64 s.lim.f4, .int .i64 s.lim.f5, .int .i64 s.lim.f6, .bool true, .slice A s.picks.length c] 26)).cell? ⟨w.heap.size, 8, none⟩ = some (.slice A s.picks.length c) := (blk_cell b0.out 8).trans rfl
  go_enter Tryd.func8, Tryd.ntmps8
  go_upto_region 3 with (fail)
  obtain ⟨g0, hg0⟩ : ∃ k, k = w.heap.size := ⟨_, rfl⟩
  rw [← hg0] at b0 x0 x1 x2 x3 x4 x5 x6 ⊢
  generalize w.alloc (.cells #[.int .i64 s.lim.f0, .int .i64 s.lim.f1, .int .i64 s.lim.f2, .int .i64 s.lim.f3, .int .i64 s.lim.f4, .int .i64 s.lim.f5, .int .i64 s.lim.f6, .bool true, .slice A s.picks.length c] 26) = w1 at b0 HB x0 x1 x2 x3 x4 x5 x6 ⊢
  clear hg0 x8
  go_upto_region 4 with (fail)
  clear x0 x1 x2 x3 x4 x5 x6
  have LCB : Aside0 ((w1.alloc (.cells #[.int .i64 s.lim.f0, .int .i64 s.lim.f1, .int .i64 s.lim.f2, .int .i64 s.lim.f3, .int .i64 s.lim.f4, .int .i64 s.lim.f5, .int .i64 s.lim.f6] 23)).heap[w1.heap.size]? = some (.cells #[.int .i64 s.lim.f0, .int .i64 s.lim.f1, .int .i64 s.lim.f2, .int .i64 s.lim.f3, .int .i64 s.lim.f4, .int .i64 s.lim.f5, .int .i64 s.lim.f6] 23 (0, 0))) := ⟨heap_alloc_new _ _⟩
  have n1_ := Aside0.mk (below_step HB.out (bel1 w1 (.cells #[.int .i64 s.lim.f0, .int .i64 s.lim.f1, .int .i64 s.lim.f2, .int .i64 s.lim.f3, .int .i64 s.lim.f4, .int .i64 s.lim.f5, .int .i64 s.lim.f6] 23)))
  have n2_ := Aside0.mk (blk_below b0.out (bel1 w1 (.cells #[.int .i64 s.lim.f0, .int .i64 s.lim.f1, .int .i64 s.lim.f2, .int .i64 s.lim.f3, .int .i64 s.lim.f4, .int .i64 s.lim.f5, .int .i64 s.lim.f6] 23)))
  generalize w1.alloc (.cells #[.int .i64 s.lim.f0, .int .i64 s.lim.f1, .int .i64 s.lim.f2, .int .i64 s.lim.f3, .int .i64 s.lim.f4, .int .i64 s.lim.f5, .int .i64 s.lim.f6] 23) = w2 at LCB n1_ n2_ ⊢
  generalize w1.heap.size = gl at LCB ⊢
  have y0 : w2.cell? ⟨gl, 0, none⟩ = some (.int .i64 s.lim.f0) := (blk_cell LCB.out 0).trans rfl
  have y1 : w2.cell? ⟨gl, 1, none⟩ = some (.int .i64 s.lim.f1) := (blk_cell LCB.out 1).trans rfl
  have y2 : w2.cell? ⟨gl, 2, none⟩ = some (.int .i64 s.lim.f2) := (blk_cell LCB.out 2).trans rfl
  have y3 : w2.cell? ⟨gl, 3, none⟩ = some (.int .i64 s.lim.f3) := (blk_cell LCB.out 3).trans rfl
  have y4 : w2.cell? ⟨gl, 4, none⟩ = some (.int .i64 s.lim.f4) := (blk_cell LCB.out 4).trans rfl
  have y5 : w2.cell? ⟨gl, 5, none⟩ = some (.int .i64 s.lim.f5) := (blk_cell LCB.out 5).trans rfl
  have y6 : w2.cell? ⟨gl, 6, none⟩ = some (.int .i64 s.lim.f6) := (blk_cell LCB.out 6).trans rfl
  have GS : Aside0 ((w2.alloc (.cells #[.int .i64 s.lim.f0, .int .i64 s.lim.f1, .int .i64 s.lim.f2, .int .i64 s.lim.f3, .int .i64 s.lim.f4, .int .i64 s.lim.f5, .int .i64 s.lim.f6] 3)).heap[w2.heap.size]? = some (.cells ((limL s.lim).map (Value.int .i64)).toArray 3 (0, 0))) := ⟨heap_alloc_new _ _⟩
  have m1_ := Aside0.mk (below_step n1_.out (bel1 w2 (.cells #[.int .i64 s.lim.f0, .int .i64 s.lim.f1, .int .i64 s.lim.f2, .int .i64 s.lim.f3, .int .i64 s.lim.f4, .int .i64 s.lim.f5, .int .i64 s.lim.f6] 3)))
  have m2_ := Aside0.mk (blk_below n2_.out (bel1 w2 (.cells #[.int .i64 s.lim.f0, .int .i64 s.lim.f1, .int .i64 s.lim.f2, .int .i64 s.lim.f3, .int .i64 s.lim.f4, .int .i64 s.lim.f5, .int .i64 s.lim.f6] 3)))
  go_upto_region 5 with (fail)
  generalize w2.alloc (.cells #[.int .i64 s.lim.f0, .int .i64 s.lim.f1, .int .i64 s.lim.f2, .int .i64 s.lim.f3, .int .i64 s.lim.f4, .int .i64 s.lim.f5, .int .i64 s.lim.f6] 3) = w3 at GS m1_ m2_ ⊢
  generalize w2.heap.size = gs at GS ⊢
  clear HB b0 y0 y1 y2 y3 y4 y5 y6 LCB n1_ n2_ hd hd2
  have HB := m1_
  have b0 := m2_
  clear m1_ m2_
  go_wp2_with (fail)
  go_loopw [6, 7] (fun v6 v7 wr => ∃ j : Nat, v7 = .int .i64 j ∧ j ≤ 7 ∧ v6 = .string (spAll ⟨#[108, 105, 109, 105, 116, 115]⟩ ((limL s.lim).take j)) ∧ Aside0 (Below w.heap.size w wr) ∧ Aside0 (wr.heap[g0]? = some (.cells #[.int .i64 s.lim.f0, .int .i64 s.lim.f1, .int .i64 s.lim.f2, .int .i64 s.lim.f3, .int .i64 s.lim.f4, .int .i64 s.lim.f5, .int .i64 s.lim.f6, .bool true, .slice A s.picks.length c] 26 (0, 0))) ∧ Aside0 (wr.heap[gs]? = some (.cells ((limL s.lim).map (Value.int .i64)).toArray 3 (0, 0)))) (fun _ v7 _ => 7 - (intOf v7).toNat)
  case atStart => exact ⟨0, rfl, by omega, rfl, HB, b0, GS⟩
  case round =>
    clear HB b0 GS
    obtain ⟨j, rfl, hj, rfl, HB, b0, GS⟩ := hrel
    by_cases hlt : j < 7
    · obtain ⟨n, hn⟩ : ∃ n, (limL s.lim)[j]? = some n := ⟨_, List.getElem?_eq_getElem hlt⟩
      have x0 : wr.cell? ⟨gs, j, none⟩ = some (.int .i64 n) := by rw [blk_cell GS.out j]; simp [hn]
      have HON := Aside0.mk (HRG.out.1 n (List.mem_of_getElem? hn))
      have HTX : Aside0 (spAll ⟨#[108, 105, 109, 105, 116, 115]⟩ ((limL s.lim).take (j + 1)) = spAll ⟨#[108, 105, 109, 105, 116, 115]⟩ ((limL s.lim).take j) ++ spI n) := ⟨by rw [List.take_add_one, hn]; exact spAll_snoc _ _ _⟩
      have z1 := itoa_len n HON.out
      have z3 := spAll_len ((limL s.lim).take j) ⟨#[108, 105, 109, 105, 116, 115]⟩ (fun q hq => HRG.out.1 q (List.mem_of_mem_take hq))
      have hz3 : (spAll ⟨#[108, 105, 109, 105, 116, 115]⟩ ((limL s.lim).take j)).size ≤ 200 := by
        have e6 : (⟨#[108, 105, 109, 105, 116, 115]⟩ : ByteArray).size = 6 := rfl
        have : ((limL s.lim).take j).length ≤ 7 := by rw [List.length_take]; omega
        omega
      clear hn z3
      generalize spAll ⟨#[108, 105, 109, 105, 116, 115]⟩ ((limL s.lim).take j) = acc at HTX hz3 ⊢
      go_wp2_with (go_at_call 16; refine (digits_any n HON.out _).mono ?_; rintro e w4 ⟨rfl, hb⟩; have n1_ := Aside0.mk (below_step HB.out hb); have n2_ := Aside0.mk (blk_below b0.out hb); have n3_ := Aside0.mk (blk_below GS.out hb); clear hb HB b0 GS; have HB := n1_; have b0 := n2_; have GS := n3_; clear n1_ n2_ n3_)
      go_roundw
      case rel => exact ⟨j + 1, by go_num, by omega, congrArg Value.string (by rw [HTX.out, spI, ByteArray.append_assoc]), HB, b0, GS⟩
      case measure => simp [intOf]; omega
    · obtain rfl : j = 7 := by omega
      obtain ⟨w14, rfl⟩ : ∃ w14 : World, w14 = wr := ⟨_, rfl⟩
      rw [show (limL s.lim).take 7 = limL s.lim from rfl, show (((7 : Nat) : Int)) = (7 : Int) from rfl]
      have HZ : (spAll ⟨#[108, 105, 109, 105, 116, 115]⟩ (limL s.lim)).size ≤ 194 := by
        have h := HHL.out
        unfold headOf at h
        rw [size_append, size_append] at h
        have e1 : (⟨#[10]⟩ : ByteArray).size = 1 := rfl
        have e5 : (reapT s.reap).size = 5 := by unfold reapT; cases s.reap <;> rfl
        omega
      have HE : Aside0 (headOf s = spAll ⟨#[108, 105, 109, 105, 116, 115]⟩ (limL s.lim) ++ ⟨#[10]⟩ ++ reapT s.reap) := ⟨rfl⟩
      generalize spAll ⟨#[108, 105, 109, 105, 116, 115]⟩ (limL s.lim) = hd at HZ HE ⊢
      have x7 : w14.cell? ⟨g0, 7, none⟩ = some (.bool true) := (blk_cell b0.out 7).trans rfl
      clear GS hlt hj
      rw [hrp] at HE
      clear hrp
      go_upto_region 14 with (fail)
      obtain ⟨wc, rfl⟩ : ∃ z : World, z = w14 := ⟨_, rfl⟩
      have HE2 : hd ++ ⟨#[10]⟩ ++ ⟨#[114, 101, 97, 112, 10]⟩ = headOf s := HE.out.symm
      rw [HE2]
      clear HE HZ x7 HE2
      have GN : Aside0 ((wc.alloc (.cells #[.string ⟨#[]⟩, .string ⟨#[115, 116, 101, 112]⟩, .string ⟨#[105, 110]⟩, .string ⟨#[111, 117, 116]⟩, .string ⟨#[112, 114, 111, 98, 101]⟩] 9)).heap[wc.heap.size]? = some (.cells #[.string ⟨#[]⟩, .string ⟨#[115, 116, 101, 112]⟩, .string ⟨#[105, 110]⟩, .string ⟨#[111, 117, 116]⟩, .string ⟨#[112, 114, 111, 98, 101]⟩] 9 (0, 0))) := ⟨heap_alloc_new _ _⟩
      have n1_ := Aside0.mk (below_step HB.out (bel1 wc (.cells #[.string ⟨#[]⟩, .string ⟨#[115, 116, 101, 112]⟩, .string ⟨#[105, 110]⟩, .string ⟨#[111, 117, 116]⟩, .string ⟨#[112, 114, 111, 98, 101]⟩] 9)))
      have n2_ := Aside0.mk (blk_below b0.out (bel1 wc (.cells #[.string ⟨#[]⟩, .string ⟨#[115, 116, 101, 112]⟩, .string ⟨#[105, 110]⟩, .string ⟨#[111, 117, 116]⟩, .string ⟨#[112, 114, 111, 98, 101]⟩] 9)))
      go_upto_region 15 with (fail)
      generalize wc.alloc (.cells #[.string ⟨#[]⟩, .string ⟨#[115, 116, 101, 112]⟩, .string ⟨#[105, 110]⟩, .string ⟨#[111, 117, 116]⟩, .string ⟨#[112, 114, 111, 98, 101]⟩] 9) = w5 at GN n1_ n2_ ⊢
      generalize wc.heap.size = gn at GN ⊢
      clear HB b0
      have HB := n1_
      have b0 := n2_
      clear n1_ n2_
      go_wp2_with (fail)
      go_loopw [6, 9] (fun v6 v9 wr => ∃ (j : Nat) (acc : ByteArray), v9 = .int .i64 j ∧ v6 = .string acc ∧ j ≤ s.picks.length ∧ Aside0 (acc.size ≤ 200 + 60 * j) ∧ Aside0 (ro = match linesFrom acc (s.picks.drop j) with | some t => (t, 0) | none => (⟨#[]⟩, 171)) ∧ Aside0 (Below w.heap.size w wr) ∧ Aside0 (wr.heap[g0]? = some (.cells #[.int .i64 s.lim.f0, .int .i64 s.lim.f1, .int .i64 s.lim.f2, .int .i64 s.lim.f3, .int .i64 s.lim.f4, .int .i64 s.lim.f5, .int .i64 s.lim.f6, .bool true, .slice A s.picks.length c] 26 (0, 0))) ∧ Aside0 (wr.heap[gn]? = some (.cells #[.string ⟨#[]⟩, .string ⟨#[115, 116, 101, 112]⟩, .string ⟨#[105, 110]⟩, .string ⟨#[111, 117, 116]⟩, .string ⟨#[112, 114, 111, 98, 101]⟩] 9 (0, 0)))) (fun _ v9 _ => s.picks.length - (intOf v9).toNat)
      case atStart => exact ⟨0, headOf s, rfl, rfl, by omega, ⟨by have := HHL.out; omega⟩, HP, HB, b0, GN⟩
      case round =>
        clear HB b0 GN HP
        obtain ⟨j, acc, rfl, rfl, hj, HA, HP, HB, b0, GN⟩ := hrel
        obtain ⟨wr2, rfl⟩ : ∃ z : World, z = wr := ⟨_, rfl⟩
        have hm := HM.out
        have y8 : wr2.cell? ⟨g0, 8, none⟩ = some (.slice A s.picks.length c) := (blk_cell b0.out 8).trans rfl
        by_cases hlt : j < s.picks.length
        · obtain ⟨p, hp⟩ : ∃ p, s.picks[j]? = some p := ⟨_, List.getElem?_eq_getElem hlt⟩
          obtain ⟨ad, hA, x0, x1, x2⟩ := at_T29 HR.out (j : Int) (by omega) (by omega)
          have hel : rd_T29 s.picks j = p := by
            unfold rd_T29
            rw [Int.toNat_natCast, List.getD_eq_getElem?_getD, hp]
            rfl
          rw [hel, Int.toNat_natCast] at x0 x1 x2
          obtain ⟨f0, n, v⟩ := p
          dsimp only at x0 x1 x2
          replace x0 := pw_cell_below HB.out x0
          replace x1 := pw_cell_below HB.out x1
          replace x2 := pw_cell_below HB.out x2
          have HON : Aside0 (okN n ∧ okN v) := ⟨HRG.out.2 _ (List.mem_of_getElem? hp)⟩
          have HDR : Aside0 (s.picks.drop j = ⟨f0, n, v⟩ :: s.picks.drop (j + 1)) := ⟨by obtain ⟨hl, he⟩ := List.getElem?_eq_some_iff.1 hp; rw [← he]; exact List.drop_eq_getElem_cons hl⟩
          have BP := Aside0.mk (heap_alloc_new wr2 (.cells #[.int .i64 f0, .int .i64 n, .int .i64 v] 29))
          have n1_ := Aside0.mk (below_step HB.out (bel1 wr2 (.cells #[.int .i64 f0, .int .i64 n, .int .i64 v] 29)))
          have n2_ := Aside0.mk (blk_below b0.out (bel1 wr2 (.cells #[.int .i64 f0, .int .i64 n, .int .i64 v] 29)))
          have n3_ := Aside0.mk (blk_below GN.out (bel1 wr2 (.cells #[.int .i64 f0, .int .i64 n, .int .i64 v] 29)))
          subst hA
          clear hp hel
          go_upto_region 19 with (fail)
          generalize wr2.alloc (.cells #[.int .i64 f0, .int .i64 n, .int .i64 v] 29) = w6 at BP n1_ n2_ n3_ ⊢
          generalize wr2.heap.size = gp at BP ⊢
          clear HB b0 GN x0 x1 x2 y8
          have HB := n1_
          have b0 := n2_
          have GN := n3_
          clear n1_ n2_ n3_
          have y0 : w6.cell? ⟨gp, 0, none⟩ = some (.int .i64 f0) := (blk_cell BP.out 0).trans rfl
          have y1 : w6.cell? ⟨gp, 1, none⟩ = some (.int .i64 n) := (blk_cell BP.out 1).trans rfl
          have y2 : w6.cell? ⟨gp, 2, none⟩ = some (.int .i64 v) := (blk_cell BP.out 2).trans rfl
          have zn := itoa_len n HON.out.1
          have zv := itoa_len v HON.out.2
          have za : acc.size ≤ 300000 := by have := HA.out; omega
          by_cases c1 : f0 < 1
          · have e1 : decide (f0 < 1) = true := decide_eq_true c1
            have HR2 : Aside0 (ro = (⟨#[]⟩, 171)) := ⟨by rw [HP.out, HDR.out, lines_none (by simp only [lineP, lineT]; rw [if_neg (by omega), if_neg (by omega), if_neg (by omega), if_neg (by omega)])]⟩
            clear HP HDR
            go_wp2_with (fail)
            go_ret2
            rw [HR2.out]
            exact ⟨rfl, HB.out⟩
          have e1 : decide (f0 < 1) = false := decide_eq_false c1
          by_cases c4 : f0 > 4
          · have e4 : decide (f0 > 4) = true := decide_eq_true c4
            have e5 : decide (4 < f0) = true := decide_eq_true c4
            have HR2 : Aside0 (ro = (⟨#[]⟩, 171)) := ⟨by rw [HP.out, HDR.out, lines_none (by simp only [lineP, lineT]; rw [if_neg (by omega), if_neg (by omega), if_neg (by omega), if_neg (by omega)])]⟩
            clear HP HDR
            go_wp2_with (fail)
            go_ret2
            rw [HR2.out]
            exact ⟨rfl, HB.out⟩
          have hk : f0 = 1 ∨ f0 = 2 ∨ f0 = 3 ∨ f0 = 4 := by omega
          clear c1 c4 e1
          rcases hk with rfl | rfl | rfl | rfl
          · by_cases hv : v = 0
            · subst hv
              have hL : lineP ⟨1, n, 0⟩ = some (⟨#[115, 116, 101, 112]⟩ ++ spI n) := rfl
              have HLN := Aside0.mk (lineP_len _ (by first | exact HON.out.1 | exact ⟨by decide, by decide⟩) (by first | exact HON.out.2 | exact ⟨by decide, by decide⟩) _ hL)
              have HAS : Aside0 (acc ++ ((⟨#[115, 116, 101, 112]⟩ ++ spI n) ++ ⟨#[10]⟩) = ((((acc ++ ⟨#[115, 116, 101, 112]⟩) ++ ⟨#[32]⟩) ++ itoaB n) ++ ⟨#[10]⟩)) := ⟨by simp only [spI, ByteArray.append_assoc]⟩
              have HR2 : Aside0 (ro = match linesFrom ((((acc ++ ⟨#[115, 116, 101, 112]⟩) ++ ⟨#[32]⟩) ++ itoaB n) ++ ⟨#[10]⟩) (s.picks.drop (j + 1)) with | some t => (t, 0) | none => (⟨#[]⟩, 171)) := ⟨by rw [HP.out, HDR.out, lines_some hL, HAS.out]⟩
              have HSZ : Aside0 (((((acc ++ ⟨#[115, 116, 101, 112]⟩) ++ ⟨#[32]⟩) ++ itoaB n) ++ ⟨#[10]⟩).size ≤ 200 + 60 * (j + 1)) := ⟨by rw [← HAS.out, size_append, size_append]; have h1 := HLN.out; have h2 := HA.out; have e1 : (⟨#[10]⟩ : ByteArray).size = 1 := rfl; omega⟩
              have x4 : w6.cell? ⟨gn, 1, none⟩ = some (.string ⟨#[115, 116, 101, 112]⟩) := (blk_cell GN.out 1).trans rfl
              clear HP HDR hL HAS HLN
              have PM1 := Aside0.mk True.intro
              go_wp2_with (first
                | (go_at_call 16; clear PM1; refine (digits_any n HON.out.1 _).mono ?_; rintro e w7 ⟨rfl, hb⟩; have n1_ := Aside0.mk (below_step HB.out hb); have n2_ := Aside0.mk (blk_below b0.out hb); have n3_ := Aside0.mk (blk_below GN.out hb); have n4_ := Aside0.mk (blk_below BP.out hb); clear hb HB b0 GN BP; have HB := n1_; have b0 := n2_; have GN := n3_; have BP := n4_; clear n1_ n2_ n3_ n4_; have q0 : w7.cell? ⟨gp, 0, none⟩ = some (.int .i64 1) := (blk_cell BP.out 0).trans rfl; have q2 : w7.cell? ⟨gp, 2, none⟩ = some (.int .i64 0) := (blk_cell BP.out 2).trans rfl))
              go_roundw
              case rel => exact ⟨j + 1, _, by go_num, rfl, by omega, HSZ, HR2, HB, b0, GN⟩
              case measure => simp [intOf]; omega
            · have e2 : (v == 0) = false := beq_eq_false_iff_ne.2 hv
              have HR2 : Aside0 (ro = (⟨#[]⟩, 171)) := ⟨by rw [HP.out, HDR.out, lines_none (by simp [lineP, lineT, hv])]⟩
              clear HP HDR
              go_wp2_with (fail)
              go_ret2
              rw [HR2.out]
              exact ⟨rfl, HB.out⟩
          · have hL : lineP ⟨2, n, v⟩ = some (⟨#[105, 110]⟩ ++ spI n ++ spI v) := rfl
            have HLN := Aside0.mk (lineP_len _ (by first | exact HON.out.1 | exact ⟨by decide, by decide⟩) (by first | exact HON.out.2 | exact ⟨by decide, by decide⟩) _ hL)
            have HAS : Aside0 (acc ++ ((⟨#[105, 110]⟩ ++ spI n ++ spI v) ++ ⟨#[10]⟩) = ((((((acc ++ ⟨#[105, 110]⟩) ++ ⟨#[32]⟩) ++ itoaB n) ++ ⟨#[32]⟩) ++ itoaB v) ++ ⟨#[10]⟩)) := ⟨by simp only [spI, ByteArray.append_assoc]⟩
            have HR2 : Aside0 (ro = match linesFrom ((((((acc ++ ⟨#[105, 110]⟩) ++ ⟨#[32]⟩) ++ itoaB n) ++ ⟨#[32]⟩) ++ itoaB v) ++ ⟨#[10]⟩) (s.picks.drop (j + 1)) with | some t => (t, 0) | none => (⟨#[]⟩, 171)) := ⟨by rw [HP.out, HDR.out, lines_some hL, HAS.out]⟩
            have HSZ : Aside0 (((((((acc ++ ⟨#[105, 110]⟩) ++ ⟨#[32]⟩) ++ itoaB n) ++ ⟨#[32]⟩) ++ itoaB v) ++ ⟨#[10]⟩).size ≤ 200 + 60 * (j + 1)) := ⟨by rw [← HAS.out, size_append, size_append]; have h1 := HLN.out; have h2 := HA.out; have e1 : (⟨#[10]⟩ : ByteArray).size = 1 := rfl; omega⟩
            have x4 : w6.cell? ⟨gn, 2, none⟩ = some (.string ⟨#[105, 110]⟩) := (blk_cell GN.out 2).trans rfl
            clear HP HDR hL HAS HLN
            have PM1 := Aside0.mk True.intro
            go_wp2_with (first
              | (go_at_call 16; clear PM1; refine (digits_any n HON.out.1 _).mono ?_; rintro e w7 ⟨rfl, hb⟩; have n1_ := Aside0.mk (below_step HB.out hb); have n2_ := Aside0.mk (blk_below b0.out hb); have n3_ := Aside0.mk (blk_below GN.out hb); have n4_ := Aside0.mk (blk_below BP.out hb); clear hb HB b0 GN BP; have HB := n1_; have b0 := n2_; have GN := n3_; have BP := n4_; clear n1_ n2_ n3_ n4_; have q0 : w7.cell? ⟨gp, 0, none⟩ = some (.int .i64 2) := (blk_cell BP.out 0).trans rfl; have q2 : w7.cell? ⟨gp, 2, none⟩ = some (.int .i64 v) := (blk_cell BP.out 2).trans rfl)
              | (go_at_call 16; refine (digits_any v HON.out.2 _).mono ?_; rintro e w8 ⟨rfl, hb⟩; have n1_ := Aside0.mk (below_step HB.out hb); have n2_ := Aside0.mk (blk_below b0.out hb); have n3_ := Aside0.mk (blk_below GN.out hb); have n4_ := Aside0.mk (blk_below BP.out hb); clear hb HB b0 GN BP; have HB := n1_; have b0 := n2_; have GN := n3_; have BP := n4_; clear n1_ n2_ n3_ n4_; have q0 : w8.cell? ⟨gp, 0, none⟩ = some (.int .i64 2) := (blk_cell BP.out 0).trans rfl; have q2 : w8.cell? ⟨gp, 2, none⟩ = some (.int .i64 v) := (blk_cell BP.out 2).trans rfl))
            go_roundw
            case rel => exact ⟨j + 1, _, by go_num, rfl, by omega, HSZ, HR2, HB, b0, GN⟩
            case measure => simp [intOf]; omega
          · by_cases hv : v = 0
            · subst hv
              have hL : lineP ⟨3, n, 0⟩ = some (⟨#[111, 117, 116]⟩ ++ spI n) := rfl
              have HLN := Aside0.mk (lineP_len _ (by first | exact HON.out.1 | exact ⟨by decide, by decide⟩) (by first | exact HON.out.2 | exact ⟨by decide, by decide⟩) _ hL)
              have HAS : Aside0 (acc ++ ((⟨#[111, 117, 116]⟩ ++ spI n) ++ ⟨#[10]⟩) = ((((acc ++ ⟨#[111, 117, 116]⟩) ++ ⟨#[32]⟩) ++ itoaB n) ++ ⟨#[10]⟩)) := ⟨by simp only [spI, ByteArray.append_assoc]⟩
              have HR2 : Aside0 (ro = match linesFrom ((((acc ++ ⟨#[111, 117, 116]⟩) ++ ⟨#[32]⟩) ++ itoaB n) ++ ⟨#[10]⟩) (s.picks.drop (j + 1)) with | some t => (t, 0) | none => (⟨#[]⟩, 171)) := ⟨by rw [HP.out, HDR.out, lines_some hL, HAS.out]⟩
              have HSZ : Aside0 (((((acc ++ ⟨#[111, 117, 116]⟩) ++ ⟨#[32]⟩) ++ itoaB n) ++ ⟨#[10]⟩).size ≤ 200 + 60 * (j + 1)) := ⟨by rw [← HAS.out, size_append, size_append]; have h1 := HLN.out; have h2 := HA.out; have e1 : (⟨#[10]⟩ : ByteArray).size = 1 := rfl; omega⟩
              have x4 : w6.cell? ⟨gn, 3, none⟩ = some (.string ⟨#[111, 117, 116]⟩) := (blk_cell GN.out 3).trans rfl
              clear HP HDR hL HAS HLN
              have PM1 := Aside0.mk True.intro
              go_wp2_with (first
                | (go_at_call 16; clear PM1; refine (digits_any n HON.out.1 _).mono ?_; rintro e w7 ⟨rfl, hb⟩; have n1_ := Aside0.mk (below_step HB.out hb); have n2_ := Aside0.mk (blk_below b0.out hb); have n3_ := Aside0.mk (blk_below GN.out hb); have n4_ := Aside0.mk (blk_below BP.out hb); clear hb HB b0 GN BP; have HB := n1_; have b0 := n2_; have GN := n3_; have BP := n4_; clear n1_ n2_ n3_ n4_; have q0 : w7.cell? ⟨gp, 0, none⟩ = some (.int .i64 3) := (blk_cell BP.out 0).trans rfl; have q2 : w7.cell? ⟨gp, 2, none⟩ = some (.int .i64 0) := (blk_cell BP.out 2).trans rfl))
              go_roundw
              case rel => exact ⟨j + 1, _, by go_num, rfl, by omega, HSZ, HR2, HB, b0, GN⟩
              case measure => simp [intOf]; omega
            · have e2 : (v == 0) = false := beq_eq_false_iff_ne.2 hv
              have HR2 : Aside0 (ro = (⟨#[]⟩, 171)) := ⟨by rw [HP.out, HDR.out, lines_none (by simp [lineP, lineT, hv])]⟩
              clear HP HDR
              go_wp2_with (fail)
              go_ret2
              rw [HR2.out]
              exact ⟨rfl, HB.out⟩
          · by_cases hv : v = 0
            · subst hv
              by_cases hn : n = 0
              · subst hn
                have hL : lineP ⟨4, 0, 0⟩ = some (⟨#[112, 114, 111, 98, 101]⟩) := rfl
                have HLN := Aside0.mk (lineP_len _ (by first | exact HON.out.1 | exact ⟨by decide, by decide⟩) (by first | exact HON.out.2 | exact ⟨by decide, by decide⟩) _ hL)
                have HAS : Aside0 (acc ++ ((⟨#[112, 114, 111, 98, 101]⟩) ++ ⟨#[10]⟩) = ((acc ++ ⟨#[112, 114, 111, 98, 101]⟩) ++ ⟨#[10]⟩)) := ⟨by simp only [spI, ByteArray.append_assoc]⟩
                have HR2 : Aside0 (ro = match linesFrom ((acc ++ ⟨#[112, 114, 111, 98, 101]⟩) ++ ⟨#[10]⟩) (s.picks.drop (j + 1)) with | some t => (t, 0) | none => (⟨#[]⟩, 171)) := ⟨by rw [HP.out, HDR.out, lines_some hL, HAS.out]⟩
                have HSZ : Aside0 (((acc ++ ⟨#[112, 114, 111, 98, 101]⟩) ++ ⟨#[10]⟩).size ≤ 200 + 60 * (j + 1)) := ⟨by rw [← HAS.out, size_append, size_append]; have h1 := HLN.out; have h2 := HA.out; have e1 : (⟨#[10]⟩ : ByteArray).size = 1 := rfl; omega⟩
                have x4 : w6.cell? ⟨gn, 4, none⟩ = some (.string ⟨#[112, 114, 111, 98, 101]⟩) := (blk_cell GN.out 4).trans rfl
                clear HP HDR hL HAS HLN
                go_wp2_with (fail)
                go_roundw
                case rel => exact ⟨j + 1, _, by go_num, rfl, by omega, HSZ, HR2, HB, b0, GN⟩
                case measure => simp [intOf]; omega
              · have e2 : (n == 0) = false := beq_eq_false_iff_ne.2 hn
                have HR2 : Aside0 (ro = (⟨#[]⟩, 171)) := ⟨by rw [HP.out, HDR.out, lines_none (by simp [lineP, lineT, hn])]⟩
                clear HP HDR
                go_wp2_with (fail)
                go_ret2
                rw [HR2.out]
                exact ⟨rfl, HB.out⟩
            · have e2 : (v == 0) = false := beq_eq_false_iff_ne.2 hv
              have HR2 : Aside0 (ro = (⟨#[]⟩, 171)) := ⟨by rw [HP.out, HDR.out, lines_none (by simp [lineP, lineT, hv])]⟩
              clear HP HDR
              go_wp2_with (fail)
              go_ret2
              rw [HR2.out]
              exact ⟨rfl, HB.out⟩
        · obtain rfl : j = s.picks.length := by omega
          have HR2 : Aside0 (ro = (acc, 0)) := ⟨by rw [HP.out, List.drop_length]; rfl⟩
          go_wp2_with (fail)
          go_ret2
          rw [HR2.out]
          exact ⟨rfl, HB.out⟩
theorem ref_print_any (A : Option Addr) (c : Nat) (s : Scr) (w : World) (hr : Kd.C k29 w A s.picks.length s.picks) (hrg : rngS s) :
    Calls Tryd.prog 8 #[.agg #[.int .i64 s.lim.f0, .int .i64 s.lim.f1, .int .i64 s.lim.f2, .int .i64 s.lim.f3, .int .i64 s.lim.f4, .int .i64 s.lim.f5, .int .i64 s.lim.f6, .bool s.reap, .slice A s.picks.length c]] w fun e w' => e = .returned (.tuple #[.string (printOf s).1, .int .i64 (printOf s).2]) ∧ Below w.heap.size w w' := by
  by_cases hm : 4096 < s.picks.length
  · exact refp_many A c s w hr hrg hm
  · cases hrp : s.reap with
    | false => exact refp_few_false A c s w hr hrg hm hrp
    | true => exact refp_few_true A c s w hr hrg hm hrp
end Go.Proofs.YtmoebchaiokamaaDoor.Given
/- Rows of elements told by their cells, laid one behind the other; copy of elements of any size. -/
namespace Go.Proofs.YtmoebchaiokamaaDoor.Given
open Go.RowKit Go.Proofs.YtmoebchaiokamaaDoorW.PrintWords
set_option linter.unusedVariables false
set_option linter.unusedSimpArgs false

/-- The j-th segment of s cells. -/
def seg (cs : List Value) (s j : Nat) : List Value := (cs.drop (j * s)).take s
theorem seg_left {cs ds : List Value} {s j : Nat} (h : (j + 1) * s ≤ cs.length) : seg (cs ++ ds) s j = seg cs s j := by
  unfold seg
  rw [Nat.add_mul, Nat.one_mul] at h
  rw [List.drop_append_of_le_length (by omega), List.take_append_of_le_length (by rw [List.length_drop]; omega)]
theorem seg_right {cs ds : List Value} {s j : Nat} (h : cs.length = j * s) (hd : ds.length = s) : seg (cs ++ ds) s j = ds := by
  unfold seg
  rw [← h, List.drop_left, List.take_of_length_le (by omega)]
theorem seg_last {cs ds es : List Value} {s j : Nat} (h : cs.length = j * s) (hd : ds.length = s) : seg (cs ++ (ds ++ es)) s j = ds := by
  unfold seg
  rw [← h, List.drop_left, List.take_append_of_le_length (by omega), List.take_of_length_le (by omega)]
theorem seg_get {cs : List Value} {s j i : Nat} (hi : i < s) : (seg cs s j)[i]? = cs[j * s + i]? := by
  unfold seg
  rw [List.getElem?_take, if_pos hi, List.getElem?_drop]
theorem add0 (g n : Nat) : (⟨g, 0, none⟩ : Addr).add n = ⟨g, n, none⟩ := by simp [Addr.add]; omega
section
variable {α : Type} {d : Kd α} {w : World} {A : Option Addr} {xs : List α}
theorem C_flat (h : d.C w A xs.length xs) (hp : 0 < xs.length) : ∃ (ad : Addr) (cs : List Value), A = some ad ∧ cs.length = xs.length * d.sz ∧ (∀ i u, cs[i]? = some u → w.cell? (ad.add i) = some u) ∧ (∀ u ∈ cs, u.oneCell' = true) ∧ ∀ (j : Nat) (x : α), xs[j]? = some x → d.K w x (seg cs d.sz j) := by
  obtain ⟨_, _, h3⟩ := h
  obtain ⟨ad, rfl, hc⟩ := h3 hp
  have key : ∀ n, n ≤ xs.length → ∃ cs : List Value, cs.length = n * d.sz ∧ (∀ i u, cs[i]? = some u → w.cell? (ad.add i) = some u) ∧ (∀ u ∈ cs, u.oneCell' = true) ∧ ∀ (j : Nat) (x : α), j < n → xs[j]? = some x → d.K w x (seg cs d.sz j) := by
    intro n
    induction n with
    | zero => exact fun _ => ⟨[], by simp, by simp, by simp, fun j x hj => by omega⟩
    | succ n ih =>
      intro hn
      obtain ⟨cs, h1, h2, h3, h4⟩ := ih (by omega)
      obtain ⟨c, hcl, hK, hcc⟩ := hc n xs[n] (List.getElem?_eq_getElem (by omega))
      refine ⟨cs ++ c, by rw [List.length_append, h1, hcl, Nat.add_mul, Nat.one_mul], fun i u hu => ?_, fun u hu => ?_, fun j x hj hx => ?_⟩
      · by_cases hi : i < cs.length
        · rw [List.getElem?_append_left hi] at hu
          exact h2 i u hu
        · rw [List.getElem?_append_right (by omega)] at hu
          have := hcc _ u hu
          rwa [show n * d.sz + (i - cs.length) = i by omega] at this
      · rcases List.mem_append.1 hu with hu | hu
        · exact h3 u hu
        · exact d.K_one hK u hu
      · by_cases hjn : j < n
        · rw [seg_left (by rw [h1]; exact Nat.mul_le_mul_right _ hjn)]
          exact h4 j x hjn hx
        · obtain rfl : j = n := by omega
          rw [seg_right h1 hcl]
          rw [List.getElem?_eq_getElem (by omega)] at hx
          injection hx with hx
          rw [← hx]
          exact hK
  obtain ⟨cs, h1, h2, h3, h4⟩ := key xs.length (Nat.le_refl _)
  exact ⟨ad, cs, rfl, h1, h2, h3, fun j x hx => h4 j x (List.getElem?_eq_some_iff.1 hx).1 hx⟩
theorem blk_C {g : Nat} {t : TypeId} {cs : List Value} (h : w.heap[g]? = some (.cells cs.toArray t (0, 0))) (hm : xs.length ≤ 9223372036854775807) (hk : ∀ (j : Nat) (x : α), xs[j]? = some x → d.K w x (seg cs d.sz j)) : d.C w (some ⟨g, 0, none⟩) xs.length xs := by
  refine ⟨rfl, hm, fun _ => ⟨_, rfl, fun j p hj => ⟨_, d.K_len (hk j p hj), hk j p hj, fun i u hu => ?_⟩⟩⟩
  have hi : i < d.sz := by
    have := (List.getElem?_eq_some_iff.1 hu).1
    rw [d.K_len (hk j p hj)] at this
    exact this
  rw [seg_get hi] at hu
  rw [add0, blk_cell h, List.getElem?_toArray]
  exact hu
end
theorem run_copy_sz {P : Program} (w : World) (dT sT ty elem : TypeId) (g o dLen dCap : Nat) (a : Addr) (sLen sCap size : Nat) (cur : Array Value) (t : TypeId) (cs : List Value)
    (hu : P.underlying dT = some (.slice elem)) (hs : (P.info? elem).map (·.size) = some size)
    (hg : w.heap[g]? = some (.cells cur t (0, 0))) (hn : cs.length = Nat.min sLen dLen * size)
    (hsrc : ∀ j v, cs[j]? = some v → w.cell? (a.add j) = some v) (hfit : o + cs.length ≤ cur.size) (h1 : ∀ v ∈ cs, v.oneCell' = true) :
    (Builtin.copy_ #[dT, sT] ty #[.slice (some ⟨g, o, none⟩) dLen dCap, .slice (some a) sLen sCap]).run P w =
      .ok (goInt (Nat.min sLen dLen)) (w.setRow g (cur.toList.take o ++ cs ++ cur.toList.drop (o + cs.length)).toArray) := by
  have hl := run_loadCells_list (P := P) w a cs hsrc
  have hst := run_storeCells_at P g o t cs 0 cur w hg (by simpa using hfit) h1
  cases hq : P.info? elem with
  | none => simp [hq] at hs
  | some i =>
    have hi : i.size = size := by simpa [hq] using hs
    simp [Builtin.copy_, run_underlying hu, Builtin.lenOf, Builtin.firstCells, sizeOf, typeInfo, hq, hi, ← hn, hl, hst]
theorem run_copy_sz0 {P : Program} (w : World) (dT sT ty elem : TypeId) (d : Option Addr) (dLen dCap : Nat) (a : Option Addr) (sCap size : Nat) (hu : P.underlying dT = some (.slice elem)) (hs : (P.info? elem).map (·.size) = some size) :
    (Builtin.copy_ #[dT, sT] ty #[.slice d dLen dCap, .slice a 0 sCap]).run P w = .ok (goInt 0) w := by
  cases hq : P.info? elem with
  | none => simp [hq] at hs
  | some i =>
    have hl : ∀ (x : Addr), (loadCells x 0).run P w = .ok #[] w := fun x => by simpa using run_loadCells_list (P := P) w x [] (by simp)
    cases d <;> cases a <;> simp [Builtin.copy_, run_underlying hu, Builtin.lenOf, Builtin.firstCells, sizeOf, typeInfo, hq, storeCells, hl]
end Go.Proofs.YtmoebchaiokamaaDoor.Given
/- Picks laid in a row by their cells: lemmas for the walk of ScriptWrites. -/
namespace Go.Proofs.YtmoebchaiokamaaDoor.Given
open Go.RowKit Go.Proofs.YtmoebchaiokamaaDoorW.PrintWords Go.Proofs.YtmoebchaiokamaaDoorW.PrintLast Go.Proofs.YtmoebchaiokamaaDoorW.PrintMore Go.Proofs.YtmoebchaiokamaaDoor.Print
set_option linter.unusedVariables false
set_option linter.unusedSimpArgs false
def pc (p : S29) : List Value := [.int .i64 p.f0, .int .i64 p.f1, .int .i64 p.f2]
def pcs (l : List S29) : List Value := l.flatMap pc
theorem pcs_len (l : List S29) : (pcs l).length = l.length * 3 := by
  induction l with
  | nil => rfl
  | cons a l ih =>
    have : (pcs (a :: l)).length = 3 + (pcs l).length := by simp [pcs, pc]; omega
    rw [this, ih, List.length_cons]
    omega
theorem pcs_app (a b : List S29) : pcs (a ++ b) = pcs a ++ pcs b := by simp [pcs]
theorem pcs_at : ∀ (l : List S29) (q r : Nat), r < 3 → (pcs l)[q * 3 + r]? = (l[q]?).bind fun p => (pc p)[r]?
  | [], q, r, h => by simp [pcs]
  | a :: l, 0, r, h => by
    have e : pcs (a :: l) = pc a ++ pcs l := rfl
    rw [e, Nat.zero_mul, Nat.zero_add, List.getElem?_append_left (by simp [pc]; omega)]
    rfl
  | a :: l, q + 1, r, h => by
    have e : pcs (a :: l) = pc a ++ pcs l := rfl
    have el : (pc a).length = 3 := rfl
    rw [e, List.getElem?_append_right (by omega), el, show (q + 1) * 3 + r - 3 = q * 3 + r by omega, pcs_at l q r h]
    rfl
theorem pcs_K {w : World} {l : List S29} {tl : List Value} (j : Nat) (x : S29) (h : l[j]? = some x) : k29.K w x (seg (pcs l ++ tl) 3 j) := by
  have hl := (List.getElem?_eq_some_iff.1 h).1
  have e : seg (pcs l ++ tl) 3 j = pc x := by
    rw [seg_left (by rw [pcs_len]; omega)]
    refine List.ext_getElem? fun i => ?_
    by_cases hi : i < 3
    · rw [seg_get hi, pcs_at l j i hi, h]
      rfl
    · rw [List.getElem?_eq_none (by unfold seg; rw [List.length_take]; omega), List.getElem?_eq_none (by show 3 ≤ i; omega)]
  rw [e]
  exact k29_mk w x
/-- A row of picks in a block reads as they are. -/
theorem own_C {w : World} {g : Nat} {l : List S29} {tl : List Value} (h : w.heap[g]? = some (.cells (pcs l ++ tl).toArray 29 (0, 0))) (hm : l.length ≤ 9223372036854775807) : Kd.C k29 w (some ⟨g, 0, none⟩) l.length l :=
  blk_C h hm (fun j x hj => pcs_K j x hj)
theorem src_cells {w : World} {A : Option Addr} {l : List S29} (h : Kd.C k29 w A l.length l) (hp : 0 < l.length) : ∃ ad, A = some ad ∧ ∀ j v, (pcs l)[j]? = some v → w.cell? (ad.add j) = some v := by
  obtain ⟨ad, cs, hA, h1, h2, _, h4⟩ := C_flat h hp
  refine ⟨ad, hA, fun j v hv => h2 j v ?_⟩
  have hj : j < l.length * 3 := by rw [← pcs_len]; exact (List.getElem?_eq_some_iff.1 hv).1
  have hq : j / 3 < l.length := by omega
  have hk := h4 (j / 3) _ (List.getElem?_eq_getElem hq)
  have e := k29_open hk
  have e2 : (seg cs 3 (j / 3))[j % 3]? = cs[j / 3 * 3 + j % 3]? := seg_get (by omega)
  have e3 := pcs_at l (j / 3) (j % 3) (by omega)
  rw [show j / 3 * 3 + j % 3 = j by omega] at e2 e3
  rw [← e2, show seg cs 3 (j / 3) = _ from e]
  rw [hv, List.getElem?_eq_getElem hq] at e3
  exact e3.symm
theorem one_pcs {l : List S29} {v : Value} (h : v ∈ pcs l) : v.oneCell' = true := by
  obtain ⟨p, _, hp⟩ := List.mem_flatMap.1 h
  simp only [pc, List.mem_cons, List.not_mem_nil, or_false] at hp
  rcases hp with rfl | rfl | rfl <;> rfl
def reps (z : List Value) : Nat → List Value
  | 0 => []
  | n + 1 => reps z n ++ z
theorem reps_len (z : List Value) : ∀ n, (reps z n).length = n * z.length
  | 0 => by simp [reps]
  | n + 1 => by rw [reps, List.length_append, reps_len z n, Nat.add_mul, Nat.one_mul]
theorem reps_front (z : List Value) : ∀ n, reps z (n + 1) = z ++ reps z n
  | 0 => by simp [reps]
  | n + 1 => by
    show reps z (n + 1) ++ z = z ++ (reps z n ++ z)
    rw [reps_front z n, List.append_assoc]
theorem made_reps (z : List Value) (hz : 0 < z.length) : ∀ n, madeCells z.toArray (n * z.length) = (reps z n).toArray
  | 0 => by simp [madeCells, reps]
  | n + 1 => by
    have ih := made_reps z hz n
    apply Array.toList_inj.1
    have e := congrArg Array.toList ih
    simp only [madeCells, Array.toList_map, Array.toList_range] at e ⊢
    rw [Nat.add_mul, Nat.one_mul, List.range_add, List.map_append, e, reps]
    congr 1
    apply List.ext_getElem
    · simp
    · intro i h1 h2
      have hi : i < z.length := by simpa using h1
      simp [Nat.mul_add_mod_self_right, Nat.mod_eq_of_lt hi, hi]
def zero29 : List Value := [.int .i64 0, .int .i64 0, .int .i64 0]
theorem reps3 (n : Nat) : (reps zero29 n).length = n * 3 := by rw [reps_len]; rfl
theorem make29 (w : World) (n : Nat) (hn : n * 24 ≤ 140737488360000) : (Instr.makeSlice 24 (.int .i64 (n : Int)) (.int .i64 (n : Int))).run Tryd.prog w = .ok (.slice (some ⟨w.heap.size, 0, none⟩) n n) (w.alloc (.cells (reps zero29 n).toArray 29)) := by
  obtain ⟨i, hi, hz, hs, hb⟩ := info_parts info29
  have h := run_make (P := Tryd.prog) w 24 29 i _ Tryd.underlying24 hi hz .i64 .i64 (n : Int) (n : Int) (by omega) (Int.le_refl _) (by rw [hb]; omega) (by omega)
  rw [Int.toNat_natCast, hs] at h
  rw [h, ← made_reps zero29 (by decide) n]
  rfl
set_option maxRecDepth 10000 in
/-- The copy of picks into a fresh row with two places more. -/
theorem copy29 (W0 w : World) (g : Nat) (A : Option Addr) (c : Nat) (l : List S29) (ty : TypeId) (h : w.heap[g]? = some (.cells (reps zero29 (l.length + 2)).toArray 29 (0, 0))) (hC : Kd.C k29 W0 A l.length l) (hb : Below W0.heap.size W0 w) :
    (Builtin.copy_ #[24, 24] ty #[.slice (some ⟨g, 0, none⟩) (l.length + 2) (l.length + 2), .slice A l.length c]).run Tryd.prog w = .ok (.int .i64 (l.length : Int)) (w.setRow g (pcs l ++ (zero29 ++ zero29)).toArray) := by
  have hz : (Tryd.prog.info? 29).map (·.size) = some 3 := by kernel_rfl
  by_cases hp : 0 < l.length
  · obtain ⟨ad, rfl, hsrc⟩ := src_cells hC hp
    have hmin : Nat.min l.length (l.length + 2) = l.length := Nat.min_eq_left (by omega)
    have hr := run_copy_sz (P := Tryd.prog) w 24 24 ty 29 g 0 (l.length + 2) (l.length + 2) ad l.length c 3 (reps zero29 (l.length + 2)).toArray 29 (pcs l) Tryd.underlying24 hz h (by rw [hmin, pcs_len]) (fun j v hv => by
      have := hsrc j v hv
      exact (hb.cell (World.block_lt_of_cell? W0 _ this)).trans this) (by rw [List.size_toArray, reps3, pcs_len]; omega) (fun v hv => one_pcs hv)
    rw [hr, hmin]
    congr 2
    rw [List.take_zero, List.nil_append, Nat.zero_add]
    congr 1
    have e : (reps zero29 (l.length + 2)).drop (pcs l).length = zero29 ++ zero29 := by
      have e1 : reps zero29 (l.length + 2) = reps zero29 l.length ++ (zero29 ++ zero29) := by
        rw [reps, reps, List.append_assoc]
      rw [e1, pcs_len, ← reps3, List.drop_left]
    exact congrArg _ e
  · have h0 : l = [] := List.eq_nil_of_length_eq_zero (by omega)
    subst h0
    have hr := run_copy_sz0 (P := Tryd.prog) w 24 24 ty 29 (some ⟨g, 0, none⟩) 2 2 A c 3 Tryd.underlying24 hz
    have : w.setRow g (pcs ([] : List S29) ++ (zero29 ++ zero29)).toArray = w := setRow_self w g _ 29 (0, 0) h
    rw [this]
    exact hr
def tail2 : List Value := [.int .i64 (-7), .int .i64 0, .int .i64 0, .int .i64 (-8), .int .i64 0, .int .i64 0]
def mid7 : List Value := [.int .i64 (-7), .int .i64 0, .int .i64 0, .int .i64 0, .int .i64 0, .int .i64 0]
theorem mark7 (l : List S29) : (pcs l ++ (zero29 ++ zero29)).toArray.setIfInBounds (l.length * 3) (.int .i64 (-7)) = (pcs l ++ mid7).toArray := by
  rw [List.setIfInBounds_toArray, List.set_append_right _ _ (by rw [pcs_len]; exact Nat.le_refl _), pcs_len, Nat.sub_self]
  rfl
theorem mark8 (l : List S29) : (pcs l ++ mid7).toArray.setIfInBounds ((l.length + 1) * 3) (.int .i64 (-8)) = (pcs l ++ tail2).toArray := by
  rw [List.setIfInBounds_toArray, List.set_append_right _ _ (by rw [pcs_len]; omega), pcs_len, show (l.length + 1) * 3 - l.length * 3 = 3 by omega]
  rfl
theorem tail_at (l : List S29) (tl : List Value) (i : Nat) : ((pcs l ++ tl).toArray)[l.length * 3 + i]? = tl[i]? := by
  rw [List.getElem?_toArray, List.getElem?_append_right (by rw [pcs_len]; omega), pcs_len, Nat.add_sub_cancel_left]
/-- Turned round so far. -/
def turnL (l : List S29) (i : Nat) : List S29 := l.reverse.take i ++ l.drop i
theorem turn_len (l : List S29) (i : Nat) (h : i ≤ l.length) : (turnL l i).length = l.length := by
  unfold turnL
  rw [List.length_append, List.length_take, List.length_reverse, List.length_drop]
  omega
theorem turn_step (l : List S29) (i : Nat) (h : i < l.length) (p : S29) (hp : l[l.length - 1 - i]? = some p) (tl : List Value) :
    ((((pcs (turnL l i) ++ tl).toArray.setIfInBounds (i * 3) (.int .i64 p.f0)).setIfInBounds (i * 3 + 1) (.int .i64 p.f1)).setIfInBounds (i * 3 + 2) (.int .i64 p.f2)) = (pcs (turnL l (i + 1)) ++ tl).toArray := by
  have e0 : turnL l i = l.reverse.take i ++ (l[i] :: l.drop (i + 1)) := by unfold turnL; rw [← List.drop_eq_getElem_cons h]
  have hr : l.reverse[i]? = some p := by rw [List.getElem?_reverse h]; exact hp
  have e1 : turnL l (i + 1) = l.reverse.take i ++ (p :: l.drop (i + 1)) := by unfold turnL; rw [List.take_add_one, hr]; simp
  have hl : (pcs (l.reverse.take i)).length = i * 3 := by rw [pcs_len, List.length_take, List.length_reverse, Nat.min_eq_left (by omega)]
  have f : ∀ (q : S29), pcs (l.reverse.take i ++ (q :: l.drop (i + 1))) ++ tl = pcs (l.reverse.take i) ++ (pc q ++ (pcs (l.drop (i + 1)) ++ tl)) := fun q => by
    rw [pcs_app]
    show pcs _ ++ (pc q ++ pcs _) ++ tl = _
    simp
  rw [e0, e1, f, f]
  simp only [List.setIfInBounds_toArray]
  rw [List.set_append_right _ _ (by omega), hl, Nat.sub_self, List.set_append_right _ _ (by omega), hl, Nat.add_sub_cancel_left, List.set_append_right _ _ (by omega), hl, Nat.add_sub_cancel_left]
  rfl
theorem turn_end (l : List S29) : turnL l l.length = l.reverse := by
  unfold turnL
  rw [List.drop_length, List.append_nil, List.take_of_length_le (by rw [List.length_reverse]; exact Nat.le_refl _)]
theorem turn_start (l : List S29) : turnL l 0 = l := by simp [turnL]
end Go.Proofs.YtmoebchaiokamaaDoor.Given
/- The walk of the law ScriptWrites. -/
namespace Go.Proofs.YtmoebchaiokamaaDoor.Given
open Go.RowKit Go.Proofs.YtmoebchaiokamaaDoorW.PrintWords Go.Proofs.YtmoebchaiokamaaDoorW.PrintLast Go.Proofs.YtmoebchaiokamaaDoorW.PrintMore Go.Proofs.YtmoebchaiokamaaDoor.Print
set_option linter.unusedVariables false
set_option linter.unusedSimpArgs false
theorem refp_lit (A : Option Addr) (c : Nat) (s : Scr) (w : World) (hr : Kd.C k29 w A s.picks.length s.picks) (hrg : rngS s) (t : ByteArray) (code : Int) (h : printOf s = (t, code)) : Calls Tryd.prog 8 #[.agg #[.int .i64 s.lim.f0, .int .i64 s.lim.f1, .int .i64 s.lim.f2, .int .i64 s.lim.f3, .int .i64 s.lim.f4, .int .i64 s.lim.f5, .int .i64 s.lim.f6, .bool s.reap, .slice A s.picks.length c]] w fun e w' => e = .returned (.tuple #[.string t, .int .i64 code]) ∧ Below w.heap.size w w' := by
  have h2 := ref_print_any A c s w hr hrg
  rw [h] at h2
  exact h2
set_option maxRecDepth 100000 in
set_option maxHeartbeats 16000000 in
theorem writes_walk (A : Option Addr) (c : Nat) (s : Scr) (w : World) (hr : Kd.C k29 w A s.picks.length s.picks) (hc : s.picks.length ≤ c) (hL : LW w) (hrg : rngS s) (hb : s.picks.length * 24 ≤ 140737488351232) :
    Calls Tryd.prog 3 #[.agg #[.int .i64 s.lim.f0, .int .i64 s.lim.f1, .int .i64 s.lim.f2, .int .i64 s.lim.f3, .int .i64 s.lim.f4, .int .i64 s.lim.f5, .int .i64 s.lim.f6, .bool s.reap, .slice A s.picks.length c]] w fun e w' => e = .returned (.bool true) ∧ Below w.heap.size w w' := by
  have hu26 := Tryd.underlying26
  have hmk : ∀ W : World, (Instr.makeSlice 24 (.int .i64 ((s.picks.length : Int) + 2)) (.int .i64 ((s.picks.length : Int) + 2))).run Tryd.prog W = .ok (.slice (some ⟨W.heap.size, 0, none⟩) (s.picks.length + 2) (s.picks.length + 2)) (W.alloc (.cells (reps zero29 (s.picks.length + 2)).toArray 29)) := fun W => make29 W (s.picks.length + 2) (by omega)
  have hw2 : IntKind.i64.wrap ((s.picks.length : Int) + 2) = (s.picks.length : Int) + 2 := Go.IntWalk.i64_in _ (by omega)
  have hw1 : IntKind.i64.wrap ((s.picks.length : Int) + 1) = (s.picks.length : Int) + 1 := Go.IntWalk.i64_in _ (by omega)
  have HR := Aside0.mk hr
  have HC := Aside0.mk hc
  have HL := Aside0.mk hL
  have HRG := Aside0.mk hrg
  have HBN := Aside0.mk hb
  obtain ⟨t, code, hp⟩ : ∃ t code, printOf s = (t, code) := ⟨_, _, rfl⟩
  have HP := Aside0.mk hp
  obtain ⟨kp, hkp⟩ := picks_self s.picks (by omega)
  have HKP := Aside0.mk hkp
  have hqt : (t.toList == t.toList) = true := beq_iff_eq.2 rfl
  obtain ⟨Z, hZ⟩ : ∃ Z, Z = reps zero29 (s.picks.length + 2) := ⟨_, rfl⟩
  rw [← hZ] at hmk
  have HZ := Aside0.mk hZ
  have BS0 := Aside0.mk (heap_alloc_new w (.cells #[.int .i64 s.lim.f0, .int .i64 s.lim.f1, .int .i64 s.lim.f2, .int .i64 s.lim.f3, .int .i64 s.lim.f4, .int .i64 s.lim.f5, .int .i64 s.lim.f6, .bool s.reap, .slice A s.picks.length c] 26))
  have B0 := Aside0.mk (bel1 w (.cells #[.int .i64 s.lim.f0, .int .i64 s.lim.f1, .int .i64 s.lim.f2, .int .i64 s.lim.f3, .int .i64 s.lim.f4, .int .i64 s.lim.f5, .int .i64 s.lim.f6, .bool s.reap, .slice A s.picks.length c] 26))
  clear hr hc hL hrg hp hkp hZ hb
  go_enter Tryd.func3, Tryd.ntmps3
  go_upto_region 1 with (fail)
  obtain ⟨g0, hg⟩ : ∃ k, k = w.heap.size := ⟨_, rfl⟩
  have G0 := Aside0.mk hg
  rw [← hg] at BS0 ⊢
  clear hg
  generalize w.alloc (.cells #[.int .i64 s.lim.f0, .int .i64 s.lim.f1, .int .i64 s.lim.f2, .int .i64 s.lim.f3, .int .i64 s.lim.f4, .int .i64 s.lim.f5, .int .i64 s.lim.f6, .bool s.reap, .slice A s.picks.length c] 26) = w0 at BS0 B0 ⊢
  go_upto_region 2 with (go_at_call 6; refine (shown_true w0 (HL.out.below B0.out)).mono ?_; rintro e w1 ⟨rfl, hb⟩; have B1 := Aside0.mk (below_step B0.out hb); have BS1 := Aside0.mk (blk_below BS0.out hb); clear hb)
  have x8 : w1.cell? ⟨g0, 8, none⟩ = some (.slice A s.picks.length c) := (blk_cell BS1.out 8).trans rfl
  have OW : Aside0 ((w1.alloc (.cells Z.toArray 29)).heap[w1.heap.size]? = some (.cells Z.toArray 29 (0, 0))) := ⟨heap_alloc_new _ _⟩
  have n1_ := Aside0.mk (below_step B1.out (bel1 w1 (.cells Z.toArray 29)))
  have n2_ := Aside0.mk (blk_below BS1.out (bel1 w1 (.cells Z.toArray 29)))
  go_upto_region 4 with (fail)
  obtain ⟨go, hgo⟩ : ∃ k, k = w1.heap.size := ⟨_, rfl⟩
  have GO : Aside0 (w.heap.size ≤ go ∧ g0 ≠ go) := ⟨by rw [hgo]; exact ⟨B1.out.size, Nat.ne_of_lt (blk_lt BS1.out)⟩⟩
  rw [← hgo] at OW ⊢
  generalize w1.alloc (.cells Z.toArray 29) = w2 at OW n1_ n2_ ⊢
  clear hgo x8 BS0 B0 BS1 B1 hmk
  have y8 : w2.cell? ⟨g0, 8, none⟩ = some (.slice A s.picks.length c) := (blk_cell n2_.out 8).trans rfl
  have HCP := Aside0.mk (copy29 w w2 go A c s.picks 3 (by rw [← HZ.out]; exact OW.out) HR.out n1_.out)
  go_upto_region 5 with ((with_reducible refine gate_dst (N := 26) rfl ?_); refine Lib.wpList_copy_run _ rfl (.tmp 23) (.tmp 25) 24 24 rfl _ _ rfl rfl HCP.out ?_)
  have m1_ : Aside0 ((w2.setRow go (pcs s.picks ++ (zero29 ++ zero29)).toArray).heap[go]? = some (.cells (pcs s.picks ++ (zero29 ++ zero29)).toArray 29 (0, 0))) := ⟨setRow_heap _ _ _ _ _ _ OW.out⟩
  have m2_ := Aside0.mk (below_setRow n1_.out GO.out.1 (pcs s.picks ++ (zero29 ++ zero29)).toArray)
  have m3_ : Aside0 ((w2.setRow go (pcs s.picks ++ (zero29 ++ zero29)).toArray).heap[g0]? = some (.cells #[.int .i64 s.lim.f0, .int .i64 s.lim.f1, .int .i64 s.lim.f2, .int .i64 s.lim.f3, .int .i64 s.lim.f4, .int .i64 s.lim.f5, .int .i64 s.lim.f6, .bool s.reap, .slice A s.picks.length c] 26 (0, 0))) := ⟨(setRow_other _ _ _ _ GO.out.2).trans n2_.out⟩
  generalize w2.setRow go (pcs s.picks ++ (zero29 ++ zero29)).toArray = w3 at m1_ m2_ m3_ ⊢
  clear OW n1_ n2_ y8 HCP
  have q0 : w3.cell? ⟨go, s.picks.length * 3, none⟩ = some (.int .i64 0) := by rw [blk_cell m1_.out, ← Nat.add_zero (s.picks.length * 3), tail_at]; rfl
  have q1 : w3.frozen? ⟨go, s.picks.length * 3, none⟩ = false := blk_frozen m1_.out _
  go_upto_region 6 with (fail)
  have k1_ : Aside0 ((w3.setCell ⟨go, s.picks.length * 3, none⟩ (.int .i64 (-7))).heap[go]? = some (.cells (pcs s.picks ++ mid7).toArray 29 (0, 0))) := ⟨blk_put m1_.out _ _ (mark7 s.picks)⟩
  have k2_ : Aside0 (Below w.heap.size w (w3.setCell ⟨go, s.picks.length * 3, none⟩ (.int .i64 (-7)))) := ⟨below_setG m2_.out GO.out.1 _ _⟩
  have k3_ : Aside0 ((w3.setCell ⟨go, s.picks.length * 3, none⟩ (.int .i64 (-7))).heap[g0]? = some (.cells #[.int .i64 s.lim.f0, .int .i64 s.lim.f1, .int .i64 s.lim.f2, .int .i64 s.lim.f3, .int .i64 s.lim.f4, .int .i64 s.lim.f5, .int .i64 s.lim.f6, .bool s.reap, .slice A s.picks.length c] 26 (0, 0))) := ⟨blk_far m3_.out GO.out.2 _⟩
  generalize w3.setCell ⟨go, s.picks.length * 3, none⟩ (.int .i64 (-7)) = w4 at k1_ k2_ k3_ ⊢
  clear m1_ m2_ m3_ q0 q1
  have q0 : w4.cell? ⟨go, (s.picks.length + 1) * 3, none⟩ = some (.int .i64 0) := by rw [blk_cell k1_.out, show (s.picks.length + 1) * 3 = s.picks.length * 3 + 3 by omega, tail_at]; rfl
  have q1 : w4.frozen? ⟨go, (s.picks.length + 1) * 3, none⟩ = false := blk_frozen k1_.out _
  go_upto_region 7 with (fail)
  have m1_ : Aside0 ((w4.setCell ⟨go, (s.picks.length + 1) * 3, none⟩ (.int .i64 (-8))).heap[go]? = some (.cells (pcs s.picks ++ tail2).toArray 29 (0, 0))) := ⟨blk_put k1_.out _ _ (mark8 s.picks)⟩
  have m2_ : Aside0 (Below w.heap.size w (w4.setCell ⟨go, (s.picks.length + 1) * 3, none⟩ (.int .i64 (-8)))) := ⟨below_setG k2_.out GO.out.1 _ _⟩
  have m3_ : Aside0 ((w4.setCell ⟨go, (s.picks.length + 1) * 3, none⟩ (.int .i64 (-8))).heap[g0]? = some (.cells #[.int .i64 s.lim.f0, .int .i64 s.lim.f1, .int .i64 s.lim.f2, .int .i64 s.lim.f3, .int .i64 s.lim.f4, .int .i64 s.lim.f5, .int .i64 s.lim.f6, .bool s.reap, .slice A s.picks.length c] 26 (0, 0))) := ⟨blk_far k3_.out GO.out.2 _⟩
  generalize w4.setCell ⟨go, (s.picks.length + 1) * 3, none⟩ (.int .i64 (-8)) = w5 at m1_ m2_ m3_ ⊢
  clear k1_ k2_ k3_ q0 q1
  have BI0 : Aside0 ((w5.alloc (.cells #[.int .i64 s.lim.f0, .int .i64 s.lim.f1, .int .i64 s.lim.f2, .int .i64 s.lim.f3, .int .i64 s.lim.f4, .int .i64 s.lim.f5, .int .i64 s.lim.f6, .bool s.reap, .slice A s.picks.length c] 26)).heap[w5.heap.size]? = some (.cells #[.int .i64 s.lim.f0, .int .i64 s.lim.f1, .int .i64 s.lim.f2, .int .i64 s.lim.f3, .int .i64 s.lim.f4, .int .i64 s.lim.f5, .int .i64 s.lim.f6, .bool s.reap, .slice A s.picks.length c] 26 (0, 0))) := ⟨heap_alloc_new _ _⟩
  have k1_ := Aside0.mk (blk_below m1_.out (bel1 w5 (.cells #[.int .i64 s.lim.f0, .int .i64 s.lim.f1, .int .i64 s.lim.f2, .int .i64 s.lim.f3, .int .i64 s.lim.f4, .int .i64 s.lim.f5, .int .i64 s.lim.f6, .bool s.reap, .slice A s.picks.length c] 26)))
  have k2_ := Aside0.mk (below_step m2_.out (bel1 w5 (.cells #[.int .i64 s.lim.f0, .int .i64 s.lim.f1, .int .i64 s.lim.f2, .int .i64 s.lim.f3, .int .i64 s.lim.f4, .int .i64 s.lim.f5, .int .i64 s.lim.f6, .bool s.reap, .slice A s.picks.length c] 26)))
  have k3_ := Aside0.mk (blk_below m3_.out (bel1 w5 (.cells #[.int .i64 s.lim.f0, .int .i64 s.lim.f1, .int .i64 s.lim.f2, .int .i64 s.lim.f3, .int .i64 s.lim.f4, .int .i64 s.lim.f5, .int .i64 s.lim.f6, .bool s.reap, .slice A s.picks.length c] 26)))
  go_upto_region 8 with ((refine wpList_load_row rfl 26 (.tmp 1) rfl g0 rfl 26 #[.int .i64 s.lim.f0, .int .i64 s.lim.f1, .int .i64 s.lim.f2, .int .i64 s.lim.f3, .int .i64 s.lim.f4, .int .i64 s.lim.f5, .int .i64 s.lim.f6, .bool s.reap, .slice A s.picks.length c] (0, 0) _ m3_.out Tryd.underlying26 rfl (by kernel_rfl) ?_))
  obtain ⟨gi, hgi⟩ : ∃ k, k = w5.heap.size := ⟨_, rfl⟩
  have GI : Aside0 (w.heap.size ≤ gi ∧ g0 ≠ gi ∧ go ≠ gi) := ⟨by rw [hgi]; exact ⟨m2_.out.size, Nat.ne_of_lt (blk_lt m3_.out), Nat.ne_of_lt (blk_lt m1_.out)⟩⟩
  rw [← hgi] at BI0 ⊢
  generalize w5.alloc (.cells #[.int .i64 s.lim.f0, .int .i64 s.lim.f1, .int .i64 s.lim.f2, .int .i64 s.lim.f3, .int .i64 s.lim.f4, .int .i64 s.lim.f5, .int .i64 s.lim.f6, .bool s.reap, .slice A s.picks.length c] 26) = w6 at BI0 k1_ k2_ k3_ ⊢
  clear hgi m1_ m2_ m3_
  obtain ⟨i24, hi24, _, hs24, _⟩ := info_parts info29
  have hcu : ∀ W : World, (Instr.slice 24 (.slice (some ⟨go, 0, none⟩) (s.picks.length + 2) (s.picks.length + 2)) none (some (.int .i64 (s.picks.length : Int))) none).run Tryd.prog W = .ok (.slice (some ⟨go, 0, none⟩) s.picks.length (s.picks.length + 2)) W := fun W => by
    have h := cut_to (P := Tryd.prog) 24 29 .i64 Tryd.underlying24 hi24 (some ⟨go, 0, none⟩) (s.picks.length + 2) (s.picks.length + 2) (s.picks.length : Int) (by omega) (by omega) (Nat.le_refl _) W
    rwa [Int.toNat_natCast] at h
  clear hi24 hs24
  have q0 : w6.cell? ⟨gi, 8, none⟩ = some (.slice A s.picks.length c) := (blk_cell BI0.out 8).trans rfl
  have q1 : w6.frozen? ⟨gi, 8, none⟩ = false := blk_frozen BI0.out 8
  go_upto_region 9 with (fail)
  have BI : Aside0 ((w6.setCell ⟨gi, 8, none⟩ (.slice (some ⟨go, 0, none⟩) s.picks.length (s.picks.length + 2))).heap[gi]? = some (.cells #[.int .i64 s.lim.f0, .int .i64 s.lim.f1, .int .i64 s.lim.f2, .int .i64 s.lim.f3, .int .i64 s.lim.f4, .int .i64 s.lim.f5, .int .i64 s.lim.f6, .bool s.reap, .slice (some ⟨go, 0, none⟩) s.picks.length (s.picks.length + 2)] 26 (0, 0))) := ⟨blk_put BI0.out 8 _ rfl⟩
  have OW : Aside0 ((w6.setCell ⟨gi, 8, none⟩ (.slice (some ⟨go, 0, none⟩) s.picks.length (s.picks.length + 2))).heap[go]? = some (.cells (pcs s.picks ++ tail2).toArray 29 (0, 0))) := ⟨blk_far k1_.out GI.out.2.2 _⟩
  have HB : Aside0 (Below w.heap.size w (w6.setCell ⟨gi, 8, none⟩ (.slice (some ⟨go, 0, none⟩) s.picks.length (s.picks.length + 2)))) := ⟨below_setG k2_.out GI.out.1 _ _⟩
  have BS : Aside0 ((w6.setCell ⟨gi, 8, none⟩ (.slice (some ⟨go, 0, none⟩) s.picks.length (s.picks.length + 2))).heap[g0]? = some (.cells #[.int .i64 s.lim.f0, .int .i64 s.lim.f1, .int .i64 s.lim.f2, .int .i64 s.lim.f3, .int .i64 s.lim.f4, .int .i64 s.lim.f5, .int .i64 s.lim.f6, .bool s.reap, .slice A s.picks.length c] 26 (0, 0))) := ⟨blk_far k3_.out GI.out.2.1 _⟩
  generalize w6.setCell ⟨gi, 8, none⟩ (.slice (some ⟨go, 0, none⟩) s.picks.length (s.picks.length + 2)) = w7 at BI OW HB BS ⊢
  clear BI0 k1_ k2_ k3_ q0 q1
  have PM1 := Aside0.mk True.intro
  go_upto_region 12 with (first
    | (refine wpList_load_row rfl 26 (.tmp 1) rfl g0 rfl 26 #[.int .i64 s.lim.f0, .int .i64 s.lim.f1, .int .i64 s.lim.f2, .int .i64 s.lim.f3, .int .i64 s.lim.f4, .int .i64 s.lim.f5, .int .i64 s.lim.f6, .bool s.reap, .slice A s.picks.length c] (0, 0) _ BS.out Tryd.underlying26 rfl (by kernel_rfl) ?_)
    | (refine wpList_load_row rfl 26 (.tmp 6) rfl gi rfl 26 #[.int .i64 s.lim.f0, .int .i64 s.lim.f1, .int .i64 s.lim.f2, .int .i64 s.lim.f3, .int .i64 s.lim.f4, .int .i64 s.lim.f5, .int .i64 s.lim.f6, .bool s.reap, .slice (some ⟨go, 0, none⟩) s.picks.length (s.picks.length + 2)] (0, 0) _ BI.out Tryd.underlying26 rfl (by kernel_rfl) ?_)
    | (go_at_call 7; clear PM1; refine (print_lit (some ⟨go, 0, none⟩) (s.picks.length + 2) s _ (own_C OW.out (by have := HBN.out; omega)) (HL.out.below HB.out) HRG.out t code HP.out).mono ?_; rintro e w8 ⟨rfl, hb⟩; have n1_ := Aside0.mk (blk_below BI.out hb); have n2_ := Aside0.mk (blk_below OW.out hb); have n3_ := Aside0.mk (below_step HB.out hb); have n4_ := Aside0.mk (blk_below BS.out hb); clear hb BI OW HB BS; have BI := n1_; have OW := n2_; have HB := n3_; have BS := n4_; clear n1_ n2_ n3_ n4_)
    | (go_at_call 7; refine (print_lit (some ⟨go, 0, none⟩) (s.picks.length + 2) s _ (own_C OW.out (by have := HBN.out; omega)) (HL.out.below HB.out) HRG.out t code HP.out).mono ?_; rintro e w9 ⟨rfl, hb⟩; have n1_ := Aside0.mk (blk_below BI.out hb); have n2_ := Aside0.mk (blk_below OW.out hb); have n3_ := Aside0.mk (below_step HB.out hb); have n4_ := Aside0.mk (blk_below BS.out hb); clear hb BI OW HB BS; have BI := n1_; have OW := n2_; have HB := n3_; have BS := n4_; clear n1_ n2_ n3_ n4_)
    | (go_at_call 8; refine (refp_lit A c s _ (Kd.C_below HR.out HB.out) HRG.out t code HP.out).mono ?_; rintro e w10 ⟨rfl, hb⟩; have n1_ := Aside0.mk (blk_below BI.out hb); have n2_ := Aside0.mk (blk_below OW.out hb); have n3_ := Aside0.mk (below_step HB.out hb); have n4_ := Aside0.mk (blk_below BS.out hb); clear hb BI OW HB BS; have BI := n1_; have OW := n2_; have HB := n3_; have BS := n4_; clear n1_ n2_ n3_ n4_))
  have q8 : w10.cell? ⟨g0, 8, none⟩ = some (.slice A s.picks.length c) := (blk_cell BS.out 8).trans rfl
  have CO := Aside0.mk (own_C OW.out (by have := HBN.out; omega))
  have CR := Aside0.mk (Kd.C_below HR.out HB.out)
  go_quiet ((go_at_call 9; exact Calls.quiet_of ((squintlaw17_picks.calls kp (some ⟨go, 0, none⟩) (s.picks.length + 2) s.picks A c s.picks true _ (Kd.C_drewN CO.out _) (by omega) (Kd.C_drewN CR.out _) HC.out HKP.out).mono fun _ _ h => ⟨h.1, h.2.out⟩)))
  generalize hw11 : w10.drewN _ = w11
  have OW2 : Aside0 (w11.heap[go]? = some (.cells (pcs s.picks ++ tail2).toArray 29 (0, 0))) := ⟨by rw [← hw11]; exact blk_drewN OW.out _⟩
  have BI2 : Aside0 (w11.heap[gi]? = some (.cells #[.int .i64 s.lim.f0, .int .i64 s.lim.f1, .int .i64 s.lim.f2, .int .i64 s.lim.f3, .int .i64 s.lim.f4, .int .i64 s.lim.f5, .int .i64 s.lim.f6, .bool s.reap, .slice (some ⟨go, 0, none⟩) s.picks.length (s.picks.length + 2)] 26 (0, 0))) := ⟨by rw [← hw11]; exact blk_drewN BI.out _⟩
  have BS2 : Aside0 (w11.heap[g0]? = some (.cells #[.int .i64 s.lim.f0, .int .i64 s.lim.f1, .int .i64 s.lim.f2, .int .i64 s.lim.f3, .int .i64 s.lim.f4, .int .i64 s.lim.f5, .int .i64 s.lim.f6, .bool s.reap, .slice A s.picks.length c] 26 (0, 0))) := ⟨by rw [← hw11]; exact blk_drewN BS.out _⟩
  have HB2 : Aside0 (Below w.heap.size w w11) := ⟨by rw [← hw11]; exact pw_below_drewN HB.out _⟩
  clear hw11 OW BI BS HB q8 CO CR HKP
  have q0 : w11.cell? ⟨go, s.picks.length * 3, none⟩ = some (.int .i64 (-7)) := by rw [blk_cell OW2.out, ← Nat.add_zero (s.picks.length * 3), tail_at]; rfl
  have q3 : w11.cell? ⟨go, (s.picks.length + 1) * 3, none⟩ = some (.int .i64 (-8)) := by rw [blk_cell OW2.out, show (s.picks.length + 1) * 3 = s.picks.length * 3 + 3 by omega, tail_at]; rfl
  go_wp2_with (fail)
  clear q0 q3
  have TS := turn_start s.picks
  go_loopw [14] (fun v14 wr => ∃ i : Nat, v14 = .int .i64 i ∧ i ≤ s.picks.length ∧ Aside0 (wr.heap[go]? = some (.cells (pcs (turnL s.picks i) ++ tail2).toArray 29 (0, 0))) ∧ Aside0 (wr.heap[gi]? = some (.cells #[.int .i64 s.lim.f0, .int .i64 s.lim.f1, .int .i64 s.lim.f2, .int .i64 s.lim.f3, .int .i64 s.lim.f4, .int .i64 s.lim.f5, .int .i64 s.lim.f6, .bool s.reap, .slice (some ⟨go, 0, none⟩) s.picks.length (s.picks.length + 2)] 26 (0, 0))) ∧ Aside0 (wr.heap[g0]? = some (.cells #[.int .i64 s.lim.f0, .int .i64 s.lim.f1, .int .i64 s.lim.f2, .int .i64 s.lim.f3, .int .i64 s.lim.f4, .int .i64 s.lim.f5, .int .i64 s.lim.f6, .bool s.reap, .slice A s.picks.length c] 26 (0, 0))) ∧ Aside0 (Below w.heap.size w wr)) (fun v14 _ => s.picks.length - (intOf v14).toNat)
  case atStart => exact ⟨0, rfl, by omega, by rw [TS]; exact OW2, BI2, BS2, HB2⟩
  case round =>
    clear OW2 BI2 BS2 HB2 TS
    obtain ⟨i, rfl, hi, OW, BI, BS, HB⟩ := hrel
    obtain ⟨wa, rfl⟩ : ∃ z : World, z = wr := ⟨_, rfl⟩
    have hbn := HBN.out
    by_cases hlt : i < s.picks.length
    · obtain ⟨q, hq⟩ : ∃ q, q = s.picks.length - 1 - i := ⟨_, rfl⟩
      have hql : q < s.picks.length := by omega
      obtain ⟨p, hp⟩ : ∃ p, s.picks[q]? = some p := ⟨_, List.getElem?_eq_getElem hql⟩
      have HTS := Aside0.mk (turn_step s.picks i hlt p (by rw [← hq]; exact hp) tail2)
      have hwA : IntKind.i64.wrap ((s.picks.length : Int) - 1) = (s.picks.length : Int) - 1 := Go.IntWalk.i64_in _ (by omega)
      have hwB : IntKind.i64.wrap ((s.picks.length : Int) - 1 - (i : Int)) = (q : Int) := by rw [Go.IntWalk.i64_in _ (by omega)]; omega
      obtain ⟨ad, hA, x0, x1, x2⟩ := at_T29 HR.out (q : Int) (by omega) (by omega)
      have hel : rd_T29 s.picks q = p := by
        unfold rd_T29
        rw [Int.toNat_natCast, List.getD_eq_getElem?_getD, hp]
        rfl
      rw [hel, Int.toNat_natCast] at x0 x1 x2
      replace x0 := pw_cell_below HB.out x0
      replace x1 := pw_cell_below HB.out x1
      replace x2 := pw_cell_below HB.out x2
      have x8 : wa.cell? ⟨g0, 8, none⟩ = some (.slice A s.picks.length c) := (blk_cell BS.out 8).trans rfl
      have hz : ∀ r, r < 3 → ∃ v, wa.cell? ⟨go, i * 3 + r, none⟩ = some v := fun r hr3 => by
        rw [blk_cell OW.out]
        refine ⟨_, Array.getElem?_eq_getElem ?_⟩
        rw [List.size_toArray, List.length_append, pcs_len, turn_len _ _ hi]
        omega
      obtain ⟨o0, y0⟩ := hz 0 (by omega)
      obtain ⟨o1, y1⟩ := hz 1 (by omega)
      obtain ⟨o2, y2⟩ := hz 2 (by omega)
      rw [Nat.add_zero] at y0
      have f0 : wa.frozen? ⟨go, i * 3, none⟩ = false := blk_frozen OW.out _
      have f1 : wa.frozen? ⟨go, i * 3 + 1, none⟩ = false := blk_frozen OW.out _
      have f2 : wa.frozen? ⟨go, i * 3 + 2, none⟩ = false := blk_frozen OW.out _
      obtain ⟨p0, p1, p2⟩ := p
      dsimp only at x0 x1 x2
      subst hA
      clear hq hp hel hz
      have hts := HTS.out
      dsimp only at hts
      have c1 : Aside0 ((((wa.setCell ⟨go, i * 3, none⟩ (.int .i64 p0)).setCell ⟨go, i * 3 + 1, none⟩ (.int .i64 p1)).setCell ⟨go, i * 3 + 2, none⟩ (.int .i64 p2)).heap[go]? = some (.cells (pcs (turnL s.picks (i + 1)) ++ tail2).toArray 29 (0, 0))) := ⟨by
        have h := blk_set (blk_set (blk_set OW.out (i * 3) (.int .i64 p0)) (i * 3 + 1) (.int .i64 p1)) (i * 3 + 2) (.int .i64 p2)
        rw [hts] at h
        exact h⟩
      have c2 := Aside0.mk (blk_far (p := ⟨go, i * 3 + 2, none⟩) (blk_far (p := ⟨go, i * 3 + 1, none⟩) (blk_far (p := ⟨go, i * 3, none⟩) BI.out (fun e => GI.out.2.2 e.symm) (.int .i64 p0)) (fun e => GI.out.2.2 e.symm) (.int .i64 p1)) (fun e => GI.out.2.2 e.symm) (.int .i64 p2))
      have c3 := Aside0.mk (blk_far (p := ⟨go, i * 3 + 2, none⟩) (blk_far (p := ⟨go, i * 3 + 1, none⟩) (blk_far (p := ⟨go, i * 3, none⟩) BS.out GO.out.2 (.int .i64 p0)) GO.out.2 (.int .i64 p1)) GO.out.2 (.int .i64 p2))
      have c4 := Aside0.mk (below_setG (below_setG (below_setG HB.out GO.out.1 (i * 3) (.int .i64 p0)) GO.out.1 (i * 3 + 1) (.int .i64 p1)) GO.out.1 (i * 3 + 2) (.int .i64 p2))
      clear hts HTS
      go_wp2_with (fail)
      go_roundw
      case rel => exact ⟨i + 1, by go_num, by omega, c1, c2, c3, c4⟩
      case measure => simp [intOf]; omega
    · obtain rfl : i = s.picks.length := by omega
      obtain ⟨wb, rfl⟩ : ∃ z : World, z = wa := ⟨_, rfl⟩
      rw [turn_end] at OW
      obtain ⟨L, hLd⟩ : ∃ L, L = s.picks.reverse := ⟨_, rfl⟩
      have hLl : L.length = s.picks.length := by rw [hLd, List.length_reverse]
      have hrg2 : rngS ⟨s.lim, s.reap, L⟩ := ⟨HRG.out.1, fun q hq => HRG.out.2 q (by rw [hLd] at hq; exact List.mem_reverse.1 hq)⟩
      rw [← hLd] at OW
      obtain ⟨t2, cd2, hp2⟩ : ∃ t2 cd2, printOf ⟨s.lim, s.reap, L⟩ = (t2, cd2) := ⟨_, _, rfl⟩
      have HPI : Aside0 (∀ W : World, W.heap[go]? = some (.cells (pcs L ++ tail2).toArray 29 (0, 0)) → LW W → Calls Tryd.prog 7 #[.agg #[.int .i64 s.lim.f0, .int .i64 s.lim.f1, .int .i64 s.lim.f2, .int .i64 s.lim.f3, .int .i64 s.lim.f4, .int .i64 s.lim.f5, .int .i64 s.lim.f6, .bool s.reap, .slice (some ⟨go, 0, none⟩) s.picks.length (s.picks.length + 2)]] W fun e w' => e = .returned (.tuple #[.string t2, .int .i64 cd2]) ∧ Below W.heap.size W w') := ⟨fun W h1 h2 => by
        have h := print_lit (some ⟨go, 0, none⟩) (s.picks.length + 2) ⟨s.lim, s.reap, L⟩ W (own_C h1 (show L.length ≤ 9223372036854775807 by omega)) h2 hrg2 t2 cd2 hp2
        dsimp only at h
        rw [hLl] at h
        exact h⟩
      have HPR : Aside0 (∀ (W : World) (Av : Option Addr) (cv : Nat), Kd.C k29 W Av L.length L → Calls Tryd.prog 8 #[.agg #[.int .i64 s.lim.f0, .int .i64 s.lim.f1, .int .i64 s.lim.f2, .int .i64 s.lim.f3, .int .i64 s.lim.f4, .int .i64 s.lim.f5, .int .i64 s.lim.f6, .bool s.reap, .slice Av L.length cv]] W fun e w' => e = .returned (.tuple #[.string t2, .int .i64 cd2]) ∧ Below W.heap.size W w') := ⟨fun W Av cv h1 => refp_lit Av cv ⟨s.lim, s.reap, L⟩ W h1 hrg2 t2 cd2 hp2⟩
      have HLL := Aside0.mk hLl
      have hqt2 : (t2.toList == t2.toList) = true := beq_iff_eq.2 rfl
      have BT0 : Aside0 ((wb.alloc (.cells #[.int .i64 s.lim.f0, .int .i64 s.lim.f1, .int .i64 s.lim.f2, .int .i64 s.lim.f3, .int .i64 s.lim.f4, .int .i64 s.lim.f5, .int .i64 s.lim.f6, .bool s.reap, .slice (some ⟨go, 0, none⟩) s.picks.length (s.picks.length + 2)] 26)).heap[wb.heap.size]? = some (.cells #[.int .i64 s.lim.f0, .int .i64 s.lim.f1, .int .i64 s.lim.f2, .int .i64 s.lim.f3, .int .i64 s.lim.f4, .int .i64 s.lim.f5, .int .i64 s.lim.f6, .bool s.reap, .slice (some ⟨go, 0, none⟩) s.picks.length (s.picks.length + 2)] 26 (0, 0))) := ⟨heap_alloc_new _ _⟩
      have k1_ := Aside0.mk (blk_below OW.out (bel1 wb (.cells #[.int .i64 s.lim.f0, .int .i64 s.lim.f1, .int .i64 s.lim.f2, .int .i64 s.lim.f3, .int .i64 s.lim.f4, .int .i64 s.lim.f5, .int .i64 s.lim.f6, .bool s.reap, .slice (some ⟨go, 0, none⟩) s.picks.length (s.picks.length + 2)] 26)))
      have k2_ := Aside0.mk (blk_below BI.out (bel1 wb (.cells #[.int .i64 s.lim.f0, .int .i64 s.lim.f1, .int .i64 s.lim.f2, .int .i64 s.lim.f3, .int .i64 s.lim.f4, .int .i64 s.lim.f5, .int .i64 s.lim.f6, .bool s.reap, .slice (some ⟨go, 0, none⟩) s.picks.length (s.picks.length + 2)] 26)))
      have k4_ := Aside0.mk (below_step HB.out (bel1 wb (.cells #[.int .i64 s.lim.f0, .int .i64 s.lim.f1, .int .i64 s.lim.f2, .int .i64 s.lim.f3, .int .i64 s.lim.f4, .int .i64 s.lim.f5, .int .i64 s.lim.f6, .bool s.reap, .slice (some ⟨go, 0, none⟩) s.picks.length (s.picks.length + 2)] 26)))
      clear hLd hLl hrg2 hp2 hlt
      go_upto_region 20 with ((refine wpList_load_row rfl 26 (.tmp 6) rfl gi rfl 26 #[.int .i64 s.lim.f0, .int .i64 s.lim.f1, .int .i64 s.lim.f2, .int .i64 s.lim.f3, .int .i64 s.lim.f4, .int .i64 s.lim.f5, .int .i64 s.lim.f6, .bool s.reap, .slice (some ⟨go, 0, none⟩) s.picks.length (s.picks.length + 2)] (0, 0) _ BI.out Tryd.underlying26 rfl (by kernel_rfl) ?_))
      obtain ⟨gt, hgt⟩ : ∃ k, k = wb.heap.size := ⟨_, rfl⟩
      have GT : Aside0 (w.heap.size ≤ gt ∧ gi ≠ gt ∧ go ≠ gt) := ⟨by rw [hgt]; exact ⟨HB.out.size, Nat.ne_of_lt (blk_lt BI.out), Nat.ne_of_lt (blk_lt OW.out)⟩⟩
      rw [← hgt] at BT0 ⊢
      generalize wb.alloc (.cells #[.int .i64 s.lim.f0, .int .i64 s.lim.f1, .int .i64 s.lim.f2, .int .i64 s.lim.f3, .int .i64 s.lim.f4, .int .i64 s.lim.f5, .int .i64 s.lim.f6, .bool s.reap, .slice (some ⟨go, 0, none⟩) s.picks.length (s.picks.length + 2)] 26) = wc at BT0 k1_ k2_ k4_ ⊢
      clear hgt OW BI HB BS
      have KL : Aside0 (Kd.C k29 wc (some ⟨go, 0, none⟩) L.length L) := ⟨own_C k1_.out (by have := HBN.out; have := HLL.out; omega)⟩
      go_upto_region 21 with (first
        | ((with_reducible refine gate_dst (N := 122) rfl ?_); refine Kd.R_lit k29 (w0 := wc) wc.heap.size 29 ?hg (N := 122) ?hd (xs := ([] : List S29)) (inner := []) (ok := fun _ => True) (okp := fun _ => True) ?hr ?hp (fun _ hk => hk) trivial ?hb ?hs (by simp) ?_; (case hd => rfl); (case hg => rfl); (case hr => first | (go_simp; done) | (go_simp; rfl)); (case hp => exact (Reps.none _ _)); (case hb => exact Below.refl _ _); (case hs => exact Nat.le_refl _); intro v5 wd ho hb _ _; have HO5 := Aside0.mk ho; have B5 := Aside0.mk hb; clear ho hb)
        | ((with_reducible refine gate_builtin (b := .append) (xs := #[.tmp 122, .tmp 125]) rfl ?_); at_builtin; refine Kd.R_append_rows k29 (Rr := k29.K wd) (w0 := wc) wc.heap.size rfl (.tmp 122) (.tmp 125) 24 29 (.agg #[.int .i64 0, .int .i64 0, .int .i64 0]) 24 rfl Tryd.underlying24 info29 rfl (by decide) (by decide) v5 ([] : List S29) L (some ⟨go, 0, none⟩) s.picks.length (s.picks.length + 2) (fun _ => True) (fun _ => False) rfl rfl HO5.out (by rw [← HLL.out]; exact Kd.C_below KL.out B5.out) (fun x cs h => by rw [k29_open h]; exact k29_mkM _ _ _ _) (fun _ h => h.elim) (fun _ _ => trivial) B5.out B5.out.size (by have := HBN.out; simp only [List.length_nil]; omega) ?_; intro v6 we ho hb _ _; rw [List.nil_append] at ho; obtain ⟨Av, cv, rfl⟩ := Kd.R_slice ho; have HO6 := Aside0.mk ho; have B6 := Aside0.mk hb; have z0 : we.cell? ⟨gt, 8, none⟩ = some (.slice (some ⟨go, 0, none⟩) s.picks.length (s.picks.length + 2)) := (blk_cell (blk_below BT0.out hb) 8).trans rfl; have z1 : we.frozen? ⟨gt, 8, none⟩ = false := blk_frozen (blk_below BT0.out hb) 8; clear ho hb))
      have BT : Aside0 ((we.setCell ⟨gt, 8, none⟩ (.slice Av L.length cv)).heap[gt]? = some (.cells #[.int .i64 s.lim.f0, .int .i64 s.lim.f1, .int .i64 s.lim.f2, .int .i64 s.lim.f3, .int .i64 s.lim.f4, .int .i64 s.lim.f5, .int .i64 s.lim.f6, .bool s.reap, .slice Av L.length cv] 26 (0, 0))) := ⟨blk_put (blk_below BT0.out B6.out) 8 _ rfl⟩
      have OW : Aside0 ((we.setCell ⟨gt, 8, none⟩ (.slice Av L.length cv)).heap[go]? = some (.cells (pcs L ++ tail2).toArray 29 (0, 0))) := ⟨blk_far (blk_below k1_.out B6.out) GT.out.2.2 _⟩
      have BI : Aside0 ((we.setCell ⟨gt, 8, none⟩ (.slice Av L.length cv)).heap[gi]? = some (.cells #[.int .i64 s.lim.f0, .int .i64 s.lim.f1, .int .i64 s.lim.f2, .int .i64 s.lim.f3, .int .i64 s.lim.f4, .int .i64 s.lim.f5, .int .i64 s.lim.f6, .bool s.reap, .slice (some ⟨go, 0, none⟩) s.picks.length (s.picks.length + 2)] 26 (0, 0))) := ⟨blk_far (blk_below k2_.out B6.out) GT.out.2.1 _⟩
      have HB : Aside0 (Below w.heap.size w (we.setCell ⟨gt, 8, none⟩ (.slice Av L.length cv))) := ⟨below_setG (below_step k4_.out B6.out) GT.out.1 _ _⟩
      have hgl := blk_lt BT0.out
      have CT : Aside0 (Kd.C k29 (we.setCell ⟨gt, 8, none⟩ (.slice Av L.length cv)) Av L.length L) := ⟨(Kd.R_reads' (Kd.R_set HO6.out (blk_below BT0.out B6.out) (by first | decide | (intro q hq; have h1 : q = 29 := List.mem_singleton.1 hq; rw [h1]; decide)) 8 _)).2.2⟩
      generalize we.setCell ⟨gt, 8, none⟩ (.slice Av L.length cv) = wf at BT OW BI HB CT ⊢
      clear BT0 k1_ k2_ k4_ KL HO5 B5 HO6 B6 z0 z1 hgl
      go_wp2_with (first
        | (refine wpList_load_row rfl 26 (.tmp 6) rfl gi rfl 26 #[.int .i64 s.lim.f0, .int .i64 s.lim.f1, .int .i64 s.lim.f2, .int .i64 s.lim.f3, .int .i64 s.lim.f4, .int .i64 s.lim.f5, .int .i64 s.lim.f6, .bool s.reap, .slice (some ⟨go, 0, none⟩) s.picks.length (s.picks.length + 2)] (0, 0) _ BI.out Tryd.underlying26 rfl (by kernel_rfl) ?_)
        | (refine wpList_load_row rfl 26 (.tmp 15) rfl gt rfl 26 #[.int .i64 s.lim.f0, .int .i64 s.lim.f1, .int .i64 s.lim.f2, .int .i64 s.lim.f3, .int .i64 s.lim.f4, .int .i64 s.lim.f5, .int .i64 s.lim.f6, .bool s.reap, .slice Av L.length cv] (0, 0) _ BT9.out Tryd.underlying26 rfl (by kernel_rfl) ?_)
        | (go_at_call 7; refine (HPI.out wf OW.out (HL.out.below HB.out)).mono ?_; rintro e wg ⟨rfl, hb⟩; have HB9 := Aside0.mk (below_step HB.out hb); have BT9 := Aside0.mk (blk_below BT.out hb); have CT9 := Aside0.mk (Kd.C_below CT.out hb); clear hb)
        | (go_at_call 8; refine (HPR.out wg Av cv CT9.out).mono ?_; rintro e wh ⟨rfl, hb⟩; have HBX := Aside0.mk (below_step HB9.out hb); clear hb))
      go_ret
      exact ⟨rfl, HBX.out⟩
end Go.Proofs.YtmoebchaiokamaaDoor.Given
