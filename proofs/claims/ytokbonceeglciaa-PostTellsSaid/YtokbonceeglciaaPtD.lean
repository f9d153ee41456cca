/- Lemmas for the claim (what no proof of it names is left out). -/
import Derived.Test.YtokbonceeglciaaPtA
import Derived.Test.YtokbonceeglciaaPtB
import Derived.Test.YtokbonceeglciaaPtC
import Derived.Laws.MakeOwn
import Derived.Laws.CopyOwn
import Derived.Lib.SlBuf
import Derived.ArgAppend
import Derived.Maps.AppendAt
import Derived.Laws.OwnMore
section
namespace Go.Proofs.Ytokbonceeglciaa.Print
open Go.Proofs.Ytokbonceeglciaa.Given
open Go.RowKit Go.Proofs.YtokbonceeglciaaW.PrintWords Go.Proofs.YtokbonceeglciaaW.PrintLast Go.Proofs.YtokbonceeglciaaW.PrintMore
attribute [local go_sem] max2_int min2_int max_two min_two max_three min_three max_four min_four
set_option linter.unusedVariables false
set_option linter.unusedSimpArgs false
mutual
def squintref13_Ins.l0 : Nat → List (S38) → List (S47) → Int → Option ((List (S47)))
  | 0, _, _, _ => none
  | k + 1, x0, x3, x4 => if x4 < (x0.length : Int) then ((squintref13_right.f k x0).bind fun t172 => (squintref13_Ins.j1 k x0 x3 x4 t172)) else (squintref13_Ins.j1 k x0 x3 x4 false)
def squintref13_Ins.j1 : Nat → List (S38) → List (S47) → Int → Bool → Option ((List (S47)))
  | 0, _, _, _, _ => none
  | k + 1, x0, x3, x4, x14 => if x14 = true then (squintref13_Ins.l1 k x0 x3 x4 0) else (some x3)
def squintref13_Ins.l1 : Nat → List (S38) → List (S47) → Int → Int → Option ((List (S47)))
  | 0, _, _, _, _ => none
  | k + 1, x0, x3, x4, x5 => if 0 ≤ x4 then (if x4 < (x0.length : Int) then (if x5 < (((rd_T38 x0 x4).f1).length : Int) then (if 0 ≤ x5 then (if ((rd_T43 ((rd_T38 x0 x4).f1) x5).f1 = true) then (squintref13_Ins.l1 k x0 x3 x4 (wrap64 (x5 + 1))) else (if ((rd_T43 ((rd_T38 x0 x4).f1) x5).f0) = 1 then (if x3.length < 3518437208883 then (squintref13_Ins.l1 k x0 (x3 ++ [(⟨(-1), 0, (rd_T38 x0 x4).f0, x5, 1⟩ : S47)]) x4 (wrap64 (x5 + 1))) else (none)) else (squintref13_Ins.l1 k x0 x3 x4 (wrap64 (x5 + 1))))) else (none)) else (squintref13_Ins.l0 k x0 x3 (wrap64 (x4 + 1)))) else (none)) else (none)
end
def squintref13_Ins.f (k : Nat) (l0 : List (S38)) : Option ((List (S47))) := squintref13_Ins.l0 k l0 (([] : List (S47))) 0
set_option maxHeartbeats 8000000 in
set_option maxRecDepth 100000 in
theorem squintref13_Ins.calls (k : Nat) (A0 : Option Addr) (c0 : Nat) (l0 : List (S38)) (r : List (S47)) (w : World) (hr0 : Kd.C k38 w A0 l0.length l0) (hc0 : l0.length ≤ c0) (h : squintref13_Ins.f k l0 = some r) :
    Calls Try.prog 13 #[.slice A0 l0.length c0] w fun e w' => ∃ v0_ : Value, e = .returned (v0_) ∧ Kd.R k47 47 w' w.heap.size (fun _ => True) v0_ r ∧ Below w.heap.size w w' := by
  have hu47 := Try.underlying47
  have HR0 := Aside0.mk hr0
  have HC0 := Aside0.mk hc0
  clear hr0 hc0
  have HB := Aside0.mk (Below.refl w.heap.size w)
  have H : (squintref13_Ins.l0 k l0 (([] : List (S47))) 0) = some r := h
  clear h
  obtain ⟨y169, hy169⟩ : ∃ y_ : List (S47), y_ = (([] : List (S47))) := ⟨_, rfl⟩
  replace H : (squintref13_Ins.l0 k l0 y169 0) = some r := by first | (rw [hy169]; with_reducible exact H) | (have H2_ := (Option.bind_some _ _).symm.trans H; rw [hy169]; with_reducible exact H2_) | (have H2_ := (Option.bind_some _ _).symm.trans H; with_reducible exact H2_) | with_reducible exact H | (rw [hy169]; exact H) | exact H
  have Ny169 := Aside0.mk hy169
  clear hy169
  have H' := Aside0.mk H
  clear H
  go_enter Try.func13, Try.ntmps13
  go_wp2_with (first | ((with_reducible refine gate_dst (N := 6) rfl ?_); refine Kd.R_lit k47 _ 47 ?hg (N := 6) ?hd (xs := ([] : List (S47))) (inner := []) (ok := fun _ => True) (okp := fun _ => True) ?hr ?hp (fun _ hk => hk) trivial (Below.refl _ _) (Nat.le_refl _) (by simp) ?_; (case hd => rfl); (case hg => rfl); (case hr => first | (go_simp; done) | (go_simp; rfl)); (case hp => exact (Reps.none _ _)); intro v170 w2 ho3 hb hg_ hnew_; clear hg_ hnew_; (first | rw [← Ny169.out] at ho3 | (simp only [Int.reduceToNat] at ho3; rw [← Ny169.out] at ho3)); have n0_ := Aside0.mk (Kd.R_lower ho3 (below_size (by repeat (first | (with_reducible first | exact HB.out | apply below_alloc | apply pw_below_drewN | apply below_drew1) | exact HB.out)))); have n1_ := Aside0.mk (below_step (by repeat (first | (with_reducible first | exact HB.out | apply below_alloc | apply pw_below_drewN | apply below_drew1) | exact HB.out)) hb); clear HB; have HO171 := n0_; have HB := n1_; clear n0_ n1_; clear hb ho3))
  go_loopg [3, 4] k (fun kq v3 v4 w' => ∃ (x3_1 : List (S47)) (x4_1 : Int), v4 = .int .i64 x4_1 ∧ Aside0 (squintref13_Ins.l0 kq l0 x3_1 x4_1 = some r) ∧ Aside0 (kq ≤ k) ∧ Aside0 (Kd.R k47 47 w' w.heap.size (fun _ => True) v3 x3_1) ∧ Aside0 (Below w.heap.size w w'))
  case atStart => exact ⟨(y169), (0), (by first | rfl | (simp; done) | (simp [*]; done)), H', ⟨Nat.le_refl _⟩, ⟨by (with_reducible repeat (first | apply Kd.R_alloc | apply Kd.R_drewN | apply Kd.R_drew)); exact HO171.out⟩, ⟨by repeat (first | (with_reducible first | exact HB.out | apply below_alloc | apply pw_below_drewN | apply below_drew1) | exact HB.out)⟩⟩
  case round =>
    clear H'
    try clear c1
    try clear p2
    obtain ⟨x3_1, x4_1, rfl, HA, HK1, HO_3, HB⟩ := hrel
    cases gk with
    | zero => exact absurd HA.out (by simp [squintref13_Ins.l0])
    | succ k1 =>
      have H := HA.out
      clear HA
      simp only [squintref13_Ins.l0] at H
      have HC4 := Aside0.mk H
      clear H
      go_upto_region 3 with (fail)
      go_cut [14] (fun v14 wc => ∃ (kq : Nat) (x14_3 : Bool), v14 = .bool x14_3 ∧ Aside0 (squintref13_Ins.j1 kq l0 x3_1 x4_1 x14_3 = some r) ∧ Aside0 (kq ≤ k1) ∧ Aside0 (Kd.R k47 47 wc w.heap.size (fun _ => True) u3 x3_1) ∧ Aside0 (Below w.heap.size w wc))
      case first =>
        have H := HC4.out
        clear HC4
        by_cases c5 : x4_1 < (l0.length : Int)
        · rw [if_pos c5] at H
          have c5b0 : decide (x4_1 < (l0.length : Int)) = true := decide_eq_true c5
          clear c5
          (first | rw [c5b0] | (simp only [i64_w, i32_w]; rw [c5b0]) | skip)
          replace H := Option.bind_eq_some_iff.mp H
          obtain ⟨t172, A60, H⟩ := H
          replace H : (squintref13_Ins.j1 k1 l0 x3_1 x4_1 t172) = some r := H
          have A6 := Aside0.mk A60
          clear A60
          have H' := Aside0.mk H
          clear H
          go_wp2_with (first | (go_at_call 28; (with_reducible refine (squintref13_right.calls k1 _ _ l0 t172 _ ?side1 ?side2 A6.out).mono ?_); (case side1 => repeat (first | exact (Kd.C_below HR0.out HB.out) | (with_reducible refine Kd.C_alloc ?_ _) | (with_reducible refine Kd.C_drewN ?_ _) | (with_reducible refine Kd.C_drew ?_))); (case side2 => exact HC0.out); rintro e w' ⟨rfl, ⟨nd, rfl⟩⟩))
          go_meet
          case rel => exact ⟨_, (t172), (by first | rfl | (simp; done) | (simp [*]; done)), H', ⟨by have := HK1.out; first | omega | exact Nat.le_refl _⟩, ⟨by (with_reducible repeat (first | apply Kd.R_alloc | apply Kd.R_drewN | apply Kd.R_drew)); exact HO_3.out⟩, ⟨by repeat (first | (with_reducible first | exact HB.out | apply below_alloc | apply pw_below_drewN | apply below_drew1) | exact HB.out)⟩⟩
        · rw [if_neg c5] at H
          have c5b0 : decide (x4_1 < (l0.length : Int)) = false := decide_eq_false c5
          clear c5
          (first | rw [c5b0] | (simp only [i64_w, i32_w]; rw [c5b0]) | skip)
          have H' := Aside0.mk H
          clear H
          go_wp2
          go_meet
          case rel => exact ⟨_, (false), (by first | rfl | (simp; done) | (simp [*]; done)), H', ⟨by have := HK1.out; first | omega | exact Nat.le_refl _⟩, ⟨by (with_reducible repeat (first | apply Kd.R_alloc | apply Kd.R_drewN | apply Kd.R_drew)); exact HO_3.out⟩, ⟨by repeat (first | (with_reducible first | exact HB.out | apply below_alloc | apply pw_below_drewN | apply below_drew1) | exact HB.out)⟩⟩
      case rest =>
        clear HC4
        try clear c1
        try clear p2
        try clear c5
        try clear c5b0
        try clear p2
        obtain ⟨kq, x14_3, rfl, HA, HJ3, HO_3, HB⟩ := hcut
        cases kq with
        | zero => exact absurd HA.out (by simp [squintref13_Ins.j1])
        | succ kj3 =>
          have H := HA.out
          clear HA
          simp only [squintref13_Ins.j1] at H
          by_cases c7 : x14_3 = true
          · subst c7
            have H1 : (squintref13_Ins.l1 kj3 l0 x3_1 x4_1 0) = some r := by rw [if_pos rfl] at H; exact H
            clear H
            have H := H1
            clear H1
            have H' := Aside0.mk H
            clear H
            go_wp2
            go_loopg [3, 5] kj3 (fun kq v3 v5 w' => ∃ (x3_3 : List (S47)) (x5_3 : Int), v5 = .int .i64 x5_3 ∧ Aside0 (squintref13_Ins.l1 kq l0 x3_3 x4_1 x5_3 = some r) ∧ Aside0 (kq ≤ kj3) ∧ Aside0 (Kd.R k47 47 w' w.heap.size (fun _ => True) v3 x3_3) ∧ Aside0 (Below w.heap.size w w'))
            case atStart => exact ⟨(x3_1), (0), (by first | rfl | (simp; done) | (simp [*]; done)), H', ⟨Nat.le_refl _⟩, ⟨by (with_reducible repeat (first | apply Kd.R_alloc | apply Kd.R_drewN | apply Kd.R_drew)); exact HO_3.out⟩, ⟨by repeat (first | (with_reducible first | exact HB.out | apply below_alloc | apply pw_below_drewN | apply below_drew1) | exact HB.out)⟩⟩
            case round =>
              clear H'
              try clear c1
              try clear p2
              try clear c5
              try clear c5b0
              try clear c7
              try clear p2
              obtain ⟨x3_3, x5_3, rfl, HA, HK3, HO_3, HB⟩ := hrel
              cases gk with
              | zero => exact absurd HA.out (by simp [squintref13_Ins.l1])
              | succ k3 =>
                have H := HA.out
                clear HA
                simp only [squintref13_Ins.l1] at H
                by_cases c8 : 0 ≤ x4_1
                · rw [if_pos c8] at H
                  have c8b0 : decide (0 ≤ x4_1) = true := decide_eq_true c8
                  clear c8
                  by_cases c9 : x4_1 < (l0.length : Int)
                  · rw [if_pos c9] at H
                    have c9b0 : decide (x4_1 < (l0.length : Int)) = true := decide_eq_true c9
                    clear c9
                    by_cases c10 : x5_3 < (((rd_T38 l0 x4_1).f1).length : Int)
                    · rw [if_pos c10] at H
                      have c10b0 : decide (x5_3 < (((rd_T38 l0 x4_1).f1).length : Int)) = true := decide_eq_true c10
                      clear c10
                      by_cases c11 : 0 ≤ x5_3
                      · rw [if_pos c11] at H
                        have c11b0 : decide (0 ≤ x5_3) = true := decide_eq_true c11
                        clear c11
                        obtain ⟨bq12, hbq12⟩ : ∃ b_ : Bool, b_ = ((rd_T43 ((rd_T38 l0 x4_1).f1) x5_3).f1) := ⟨_, rfl⟩
                        replace H : (if (bq12 = true) then (squintref13_Ins.l1 k3 l0 x3_3 x4_1 (wrap64 (x5_3 + 1))) else (if ((rd_T43 ((rd_T38 l0 x4_1).f1) x5_3).f0) = 1 then (if x3_3.length < 3518437208883 then (squintref13_Ins.l1 k3 l0 (x3_3 ++ [(⟨(-1), 0, (rd_T38 l0 x4_1).f0, x5_3, 1⟩ : S47)]) x4_1 (wrap64 (x5_3 + 1))) else (none)) else (squintref13_Ins.l1 k3 l0 x3_3 x4_1 (wrap64 (x5_3 + 1))))) = some r := by rw [← hbq12] at H; exact H
                        have Nbq12 := Aside0.mk hbq12
                        clear hbq12
                        by_cases c13 : (bq12 = true)
                        · subst c13
                          have H1 : (squintref13_Ins.l1 k3 l0 x3_3 x4_1 (wrap64 (x5_3 + 1))) = some r := by rw [if_pos rfl] at H; exact H
                          clear H
                          have H := H1
                          clear H1
                          have H' := Aside0.mk H
                          clear H
                          have p173 : 0 ≤ (x4_1 : Int) := of_decide_eq_true (by first | (with_reducible assumption) | assumption)
                          have q173 : x4_1 < (l0.length : Int) := of_decide_eq_true (by first | (with_reducible assumption) | assumption)
                          obtain ⟨ad173, A173_1, c173_1, e173, hx173_0, hx173_1, hl173_1, hi173_1⟩ := at_T38 HR0.out x4_1 p173 q173
                          cases e173
                          replace hx173_0 := (HB.out.cell (World.block_lt_of_cell? w _ hx173_0)).trans hx173_0
                          replace hx173_1 := (HB.out.cell (World.block_lt_of_cell? w _ hx173_1)).trans hx173_1
                          have HR173_1 := Aside0.mk hi173_1
                          have HC173_1 := Aside0.mk hl173_1
                          clear hi173_1 hl173_1
                          replace p173 := eq_true p173
                          replace q173 := eq_true q173
                          have p174 : 0 ≤ (x4_1 : Int) := of_decide_eq_true (by first | (with_reducible assumption) | assumption)
                          have q174 : x4_1 < (l0.length : Int) := of_decide_eq_true (by first | (with_reducible assumption) | assumption)
                          obtain ⟨ad174, A174_1, c174_1, e174, hx174_0, hx174_1, hl174_1, hi174_1⟩ := at_T38 HR0.out x4_1 p174 q174
                          obtain rfl : ad173 = ad174 := (by injection e174)
                          replace hx174_0 := (HB.out.cell (World.block_lt_of_cell? w _ hx174_0)).trans hx174_0
                          replace hx174_1 := (HB.out.cell (World.block_lt_of_cell? w _ hx174_1)).trans hx174_1
                          have HR174_1 := Aside0.mk hi174_1
                          have HC174_1 := Aside0.mk hl174_1
                          clear hi174_1 hl174_1
                          replace p174 := eq_true p174
                          replace q174 := eq_true q174
                          have ea_ := Option.some.inj (hx173_1.symm.trans hx174_1)
                          injection ea_ with ea_ en_ ec_
                          subst ea_
                          subst ec_
                          clear en_
                          have p175 : 0 ≤ (x5_3 : Int) := of_decide_eq_true (by first | (with_reducible assumption) | assumption)
                          have q175 : x5_3 < (((rd_T38 l0 x4_1).f1).length : Int) := of_decide_eq_true (by first | (with_reducible assumption) | assumption)
                          obtain ⟨ad175, A175_4, c175_4, e175, hx175_0, hx175_1, hx175_2, hx175_3, hx175_4, hl175_4, hi175_4⟩ := at_T43 HR174_1.out x5_3 p175 q175
                          (try rw [← Nbq12.out] at hx175_1)
                          cases e175
                          replace hx175_0 := (HB.out.cell (World.block_lt_of_cell? w _ hx175_0)).trans hx175_0
                          replace hx175_1 := (HB.out.cell (World.block_lt_of_cell? w _ hx175_1)).trans hx175_1
                          replace hx175_2 := (HB.out.cell (World.block_lt_of_cell? w _ hx175_2)).trans hx175_2
                          replace hx175_3 := (HB.out.cell (World.block_lt_of_cell? w _ hx175_3)).trans hx175_3
                          replace hx175_4 := (HB.out.cell (World.block_lt_of_cell? w _ hx175_4)).trans hx175_4
                          have HR175_4 := Aside0.mk hi175_4
                          have HC175_4 := Aside0.mk hl175_4
                          clear hi175_4 hl175_4
                          replace p175 := eq_true p175
                          replace q175 := eq_true q175
                          go_wp2
                          go_roundg k3
                          case measure => have := HK1.out; have := HJ3.out; have := HK3.out; omega
                          case rel => exact ⟨(x3_3), (wrap64 (x5_3 + 1)), (by first | rfl | (simp; done) | (simp [*]; done)), H', ⟨by have := HK1.out; have := HJ3.out; have := HK3.out; omega⟩, ⟨by (with_reducible repeat (first | apply Kd.R_alloc | apply Kd.R_drewN | apply Kd.R_drew)); exact HO_3.out⟩, ⟨by repeat (first | (with_reducible first | exact HB.out | apply below_alloc | apply pw_below_drewN | apply below_drew1) | exact HB.out)⟩⟩
                        · replace c13 := Bool.eq_false_iff.mpr c13
                          subst c13
                          have H1 : (if ((rd_T43 ((rd_T38 l0 x4_1).f1) x5_3).f0) = 1 then (if x3_3.length < 3518437208883 then (squintref13_Ins.l1 k3 l0 (x3_3 ++ [(⟨(-1), 0, (rd_T38 l0 x4_1).f0, x5_3, 1⟩ : S47)]) x4_1 (wrap64 (x5_3 + 1))) else (none)) else (squintref13_Ins.l1 k3 l0 x3_3 x4_1 (wrap64 (x5_3 + 1)))) = some r := by rw [if_neg (show ¬ (false = true) by decide)] at H; exact H
                          clear H
                          have H := H1
                          clear H1
                          by_cases c14 : ((rd_T43 ((rd_T38 l0 x4_1).f1) x5_3).f0) = 1
                          · rw [if_pos c14] at H
                            have c14b0 : (((rd_T43 ((rd_T38 l0 x4_1).f1) x5_3).f0) == 1) = true := beq_iff_eq.mpr c14
                            have c14b1 : (((rd_T43 ((rd_T38 l0 x4_1).f1) x5_3).f0) != 1) = false := bne_eq_false_iff_eq.mpr c14
                            clear c14
                            by_cases c15 : x3_3.length < 3518437208883
                            · rw [if_pos c15] at H
                              have LMc15 := Aside0.mk c15
                              clear c15
                              obtain ⟨y179, hy179⟩ : ∃ y_ : List (S47), y_ = (x3_3 ++ [(⟨(-1), 0, (rd_T38 l0 x4_1).f0, x5_3, 1⟩ : S47)]) := ⟨_, rfl⟩
                              replace H : (squintref13_Ins.l1 k3 l0 y179 x4_1 (wrap64 (x5_3 + 1))) = some r := by first | (rw [hy179]; with_reducible exact H) | (have H2_ := (Option.bind_some _ _).symm.trans H; rw [hy179]; with_reducible exact H2_) | (have H2_ := (Option.bind_some _ _).symm.trans H; with_reducible exact H2_) | with_reducible exact H | (rw [hy179]; exact H) | exact H
                              have Ny179 := Aside0.mk hy179
                              clear hy179
                              have H' := Aside0.mk H
                              clear H
                              have p173 : 0 ≤ (x4_1 : Int) := of_decide_eq_true (by first | (with_reducible assumption) | assumption)
                              have q173 : x4_1 < (l0.length : Int) := of_decide_eq_true (by first | (with_reducible assumption) | assumption)
                              obtain ⟨ad173, A173_1, c173_1, e173, hx173_0, hx173_1, hl173_1, hi173_1⟩ := at_T38 HR0.out x4_1 p173 q173
                              cases e173
                              replace hx173_0 := (HB.out.cell (World.block_lt_of_cell? w _ hx173_0)).trans hx173_0
                              replace hx173_1 := (HB.out.cell (World.block_lt_of_cell? w _ hx173_1)).trans hx173_1
                              have HR173_1 := Aside0.mk hi173_1
                              have HC173_1 := Aside0.mk hl173_1
                              clear hi173_1 hl173_1
                              replace p173 := eq_true p173
                              replace q173 := eq_true q173
                              have p174 : 0 ≤ (x4_1 : Int) := of_decide_eq_true (by first | (with_reducible assumption) | assumption)
                              have q174 : x4_1 < (l0.length : Int) := of_decide_eq_true (by first | (with_reducible assumption) | assumption)
                              obtain ⟨ad174, A174_1, c174_1, e174, hx174_0, hx174_1, hl174_1, hi174_1⟩ := at_T38 HR0.out x4_1 p174 q174
                              obtain rfl : ad173 = ad174 := (by injection e174)
                              replace hx174_0 := (HB.out.cell (World.block_lt_of_cell? w _ hx174_0)).trans hx174_0
                              replace hx174_1 := (HB.out.cell (World.block_lt_of_cell? w _ hx174_1)).trans hx174_1
                              have HR174_1 := Aside0.mk hi174_1
                              have HC174_1 := Aside0.mk hl174_1
                              clear hi174_1 hl174_1
                              replace p174 := eq_true p174
                              replace q174 := eq_true q174
                              have ea_ := Option.some.inj (hx173_1.symm.trans hx174_1)
                              injection ea_ with ea_ en_ ec_
                              subst ea_
                              subst ec_
                              clear en_
                              have p175 : 0 ≤ (x5_3 : Int) := of_decide_eq_true (by first | (with_reducible assumption) | assumption)
                              have q175 : x5_3 < (((rd_T38 l0 x4_1).f1).length : Int) := of_decide_eq_true (by first | (with_reducible assumption) | assumption)
                              obtain ⟨ad175, A175_4, c175_4, e175, hx175_0, hx175_1, hx175_2, hx175_3, hx175_4, hl175_4, hi175_4⟩ := at_T43 HR174_1.out x5_3 p175 q175
                              (try rw [← Nbq12.out] at hx175_1)
                              cases e175
                              replace hx175_0 := (HB.out.cell (World.block_lt_of_cell? w _ hx175_0)).trans hx175_0
                              replace hx175_1 := (HB.out.cell (World.block_lt_of_cell? w _ hx175_1)).trans hx175_1
                              replace hx175_2 := (HB.out.cell (World.block_lt_of_cell? w _ hx175_2)).trans hx175_2
                              replace hx175_3 := (HB.out.cell (World.block_lt_of_cell? w _ hx175_3)).trans hx175_3
                              replace hx175_4 := (HB.out.cell (World.block_lt_of_cell? w _ hx175_4)).trans hx175_4
                              have HR175_4 := Aside0.mk hi175_4
                              have HC175_4 := Aside0.mk hl175_4
                              clear hi175_4 hl175_4
                              replace p175 := eq_true p175
                              replace q175 := eq_true q175
                              have p176 : 0 ≤ (x4_1 : Int) := of_decide_eq_true (by first | (with_reducible assumption) | assumption)
                              have q176 : x4_1 < (l0.length : Int) := of_decide_eq_true (by first | (with_reducible assumption) | assumption)
                              obtain ⟨ad176, A176_1, c176_1, e176, hx176_0, hx176_1, hl176_1, hi176_1⟩ := at_T38 HR0.out x4_1 p176 q176
                              obtain rfl : ad173 = ad176 := (by injection e176)
                              replace hx176_0 := (HB.out.cell (World.block_lt_of_cell? w _ hx176_0)).trans hx176_0
                              replace hx176_1 := (HB.out.cell (World.block_lt_of_cell? w _ hx176_1)).trans hx176_1
                              have HR176_1 := Aside0.mk hi176_1
                              have HC176_1 := Aside0.mk hl176_1
                              clear hi176_1 hl176_1
                              replace p176 := eq_true p176
                              replace q176 := eq_true q176
                              have ea_ := Option.some.inj (hx173_1.symm.trans hx176_1)
                              injection ea_ with ea_ en_ ec_
                              subst ea_
                              subst ec_
                              clear en_
                              have p177 : 0 ≤ (x5_3 : Int) := of_decide_eq_true (by first | (with_reducible assumption) | assumption)
                              have q177 : x5_3 < (((rd_T38 l0 x4_1).f1).length : Int) := of_decide_eq_true (by first | (with_reducible assumption) | assumption)
                              obtain ⟨ad177, A177_4, c177_4, e177, hx177_0, hx177_1, hx177_2, hx177_3, hx177_4, hl177_4, hi177_4⟩ := at_T43 HR176_1.out x5_3 p177 q177
                              (try rw [← Nbq12.out] at hx177_1)
                              cases e177
                              replace hx177_0 := (HB.out.cell (World.block_lt_of_cell? w _ hx177_0)).trans hx177_0
                              replace hx177_1 := (HB.out.cell (World.block_lt_of_cell? w _ hx177_1)).trans hx177_1
                              replace hx177_2 := (HB.out.cell (World.block_lt_of_cell? w _ hx177_2)).trans hx177_2
                              replace hx177_3 := (HB.out.cell (World.block_lt_of_cell? w _ hx177_3)).trans hx177_3
                              replace hx177_4 := (HB.out.cell (World.block_lt_of_cell? w _ hx177_4)).trans hx177_4
                              have HR177_4 := Aside0.mk hi177_4
                              have HC177_4 := Aside0.mk hl177_4
                              clear hi177_4 hl177_4
                              replace p177 := eq_true p177
                              replace q177 := eq_true q177
                              have p178 : 0 ≤ (x4_1 : Int) := of_decide_eq_true (by first | (with_reducible assumption) | assumption)
                              have q178 : x4_1 < (l0.length : Int) := of_decide_eq_true (by first | (with_reducible assumption) | assumption)
                              obtain ⟨ad178, A178_1, c178_1, e178, hx178_0, hx178_1, hl178_1, hi178_1⟩ := at_T38 HR0.out x4_1 p178 q178
                              obtain rfl : ad173 = ad178 := (by injection e178)
                              replace hx178_0 := (HB.out.cell (World.block_lt_of_cell? w _ hx178_0)).trans hx178_0
                              replace hx178_1 := (HB.out.cell (World.block_lt_of_cell? w _ hx178_1)).trans hx178_1
                              have HR178_1 := Aside0.mk hi178_1
                              have HC178_1 := Aside0.mk hl178_1
                              clear hi178_1 hl178_1
                              replace p178 := eq_true p178
                              replace q178 := eq_true q178
                              have ea_ := Option.some.inj (hx173_1.symm.trans hx178_1)
                              injection ea_ with ea_ en_ ec_
                              subst ea_
                              subst ec_
                              clear en_
                              go_wp2_with (first | ((with_reducible refine gate_builtin (b := .append) (xs := #[.tmp 49, .tmp 57]) rfl ?_); at_builtin; refine Kd.R_append k47 (w0 := w) w.heap.size rfl (.tmp 49) (.tmp 57) 33 47 (.agg #[(.int .i64 0), (.int .i64 0), (.int .i64 0), (.int .i64 0), (.int .i64 0)]) 40 rfl Try.underlying33 info47 rfl (by decide) (by omega) u3 x3_3 (⟨(-1), 0, (rd_T38 l0 x4_1).f0, x5_3, 1⟩ : S47) [.int .i64 (-1), .int .i64 0, .int .i64 ((rd_T38 l0 x4_1).f0), .int .i64 x5_3, .int .i64 1] (fun _ => True) (fun _ => False) rfl rfl ?aP (fun _ hk => hk.elim) ?aF ?aO ?aB ?aS ?aL ?_; (case aP => exact k47_mkM _ _ _ (⟨(-1), 0, (rd_T38 l0 x4_1).f0, x5_3, 1⟩ : S47)); (case aB => exact (by repeat (first | (with_reducible first | exact HB.out | apply below_alloc | apply pw_below_drewN | apply below_drew1) | exact HB.out))); (case aF => exact (fun _ _ => trivial)); (case aO => exact (by (with_reducible repeat (first | apply Kd.R_alloc | apply Kd.R_drewN | apply Kd.R_drew)); exact HO_3.out)); (case aS => exact (below_size (by repeat (first | (with_reducible first | exact HB.out | apply below_alloc | apply pw_below_drewN | apply below_drew1) | exact HB.out)))); (case aL => have := LMc15.out; omega); intro v180 w16 ho hb hg hat; rw [← Ny179.out] at ho; have n0_ := Aside0.mk (hb); have n1_ := Aside0.mk (ho); clear HB; clear HO_3; have HB := n0_; have HO181 := n1_; clear n0_ n1_; clear ho hb hg hat))
                              go_roundg k3
                              case measure => have := HK1.out; have := HJ3.out; have := HK3.out; omega
                              case rel => exact ⟨(y179), (wrap64 (x5_3 + 1)), (by first | rfl | (simp; done) | (simp [*]; done)), H', ⟨by have := HK1.out; have := HJ3.out; have := HK3.out; omega⟩, ⟨by (with_reducible repeat (first | apply Kd.R_alloc | apply Kd.R_drewN | apply Kd.R_drew)); exact HO181.out⟩, ⟨by repeat (first | (with_reducible first | exact HB.out | apply below_alloc | apply pw_below_drewN | apply below_drew1) | exact HB.out)⟩⟩
                            · rw [if_neg c15] at H
                              exact absurd H (by simp)
                          · rw [if_neg c14] at H
                            have c14b0 : (((rd_T43 ((rd_T38 l0 x4_1).f1) x5_3).f0) == 1) = false := beq_eq_false_iff_ne.mpr c14
                            have c14b1 : (((rd_T43 ((rd_T38 l0 x4_1).f1) x5_3).f0) != 1) = true := bne_iff_ne.mpr c14
                            have H' := Aside0.mk H
                            clear H
                            have p173 : 0 ≤ (x4_1 : Int) := of_decide_eq_true (by first | (with_reducible assumption) | assumption)
                            have q173 : x4_1 < (l0.length : Int) := of_decide_eq_true (by first | (with_reducible assumption) | assumption)
                            obtain ⟨ad173, A173_1, c173_1, e173, hx173_0, hx173_1, hl173_1, hi173_1⟩ := at_T38 HR0.out x4_1 p173 q173
                            cases e173
                            replace hx173_0 := (HB.out.cell (World.block_lt_of_cell? w _ hx173_0)).trans hx173_0
                            replace hx173_1 := (HB.out.cell (World.block_lt_of_cell? w _ hx173_1)).trans hx173_1
                            have HR173_1 := Aside0.mk hi173_1
                            have HC173_1 := Aside0.mk hl173_1
                            clear hi173_1 hl173_1
                            replace p173 := eq_true p173
                            replace q173 := eq_true q173
                            have p174 : 0 ≤ (x4_1 : Int) := of_decide_eq_true (by first | (with_reducible assumption) | assumption)
                            have q174 : x4_1 < (l0.length : Int) := of_decide_eq_true (by first | (with_reducible assumption) | assumption)
                            obtain ⟨ad174, A174_1, c174_1, e174, hx174_0, hx174_1, hl174_1, hi174_1⟩ := at_T38 HR0.out x4_1 p174 q174
                            obtain rfl : ad173 = ad174 := (by injection e174)
                            replace hx174_0 := (HB.out.cell (World.block_lt_of_cell? w _ hx174_0)).trans hx174_0
                            replace hx174_1 := (HB.out.cell (World.block_lt_of_cell? w _ hx174_1)).trans hx174_1
                            have HR174_1 := Aside0.mk hi174_1
                            have HC174_1 := Aside0.mk hl174_1
                            clear hi174_1 hl174_1
                            replace p174 := eq_true p174
                            replace q174 := eq_true q174
                            have ea_ := Option.some.inj (hx173_1.symm.trans hx174_1)
                            injection ea_ with ea_ en_ ec_
                            subst ea_
                            subst ec_
                            clear en_
                            have p175 : 0 ≤ (x5_3 : Int) := of_decide_eq_true (by first | (with_reducible assumption) | assumption)
                            have q175 : x5_3 < (((rd_T38 l0 x4_1).f1).length : Int) := of_decide_eq_true (by first | (with_reducible assumption) | assumption)
                            obtain ⟨ad175, A175_4, c175_4, e175, hx175_0, hx175_1, hx175_2, hx175_3, hx175_4, hl175_4, hi175_4⟩ := at_T43 HR174_1.out x5_3 p175 q175
                            (try rw [← Nbq12.out] at hx175_1)
                            cases e175
                            replace hx175_0 := (HB.out.cell (World.block_lt_of_cell? w _ hx175_0)).trans hx175_0
                            replace hx175_1 := (HB.out.cell (World.block_lt_of_cell? w _ hx175_1)).trans hx175_1
                            replace hx175_2 := (HB.out.cell (World.block_lt_of_cell? w _ hx175_2)).trans hx175_2
                            replace hx175_3 := (HB.out.cell (World.block_lt_of_cell? w _ hx175_3)).trans hx175_3
                            replace hx175_4 := (HB.out.cell (World.block_lt_of_cell? w _ hx175_4)).trans hx175_4
                            have HR175_4 := Aside0.mk hi175_4
                            have HC175_4 := Aside0.mk hl175_4
                            clear hi175_4 hl175_4
                            replace p175 := eq_true p175
                            replace q175 := eq_true q175
                            have p176 : 0 ≤ (x4_1 : Int) := of_decide_eq_true (by first | (with_reducible assumption) | assumption)
                            have q176 : x4_1 < (l0.length : Int) := of_decide_eq_true (by first | (with_reducible assumption) | assumption)
                            obtain ⟨ad176, A176_1, c176_1, e176, hx176_0, hx176_1, hl176_1, hi176_1⟩ := at_T38 HR0.out x4_1 p176 q176
                            obtain rfl : ad173 = ad176 := (by injection e176)
                            replace hx176_0 := (HB.out.cell (World.block_lt_of_cell? w _ hx176_0)).trans hx176_0
                            replace hx176_1 := (HB.out.cell (World.block_lt_of_cell? w _ hx176_1)).trans hx176_1
                            have HR176_1 := Aside0.mk hi176_1
                            have HC176_1 := Aside0.mk hl176_1
                            clear hi176_1 hl176_1
                            replace p176 := eq_true p176
                            replace q176 := eq_true q176
                            have ea_ := Option.some.inj (hx173_1.symm.trans hx176_1)
                            injection ea_ with ea_ en_ ec_
                            subst ea_
                            subst ec_
                            clear en_
                            have p177 : 0 ≤ (x5_3 : Int) := of_decide_eq_true (by first | (with_reducible assumption) | assumption)
                            have q177 : x5_3 < (((rd_T38 l0 x4_1).f1).length : Int) := of_decide_eq_true (by first | (with_reducible assumption) | assumption)
                            obtain ⟨ad177, A177_4, c177_4, e177, hx177_0, hx177_1, hx177_2, hx177_3, hx177_4, hl177_4, hi177_4⟩ := at_T43 HR176_1.out x5_3 p177 q177
                            (try rw [← Nbq12.out] at hx177_1)
                            cases e177
                            replace hx177_0 := (HB.out.cell (World.block_lt_of_cell? w _ hx177_0)).trans hx177_0
                            replace hx177_1 := (HB.out.cell (World.block_lt_of_cell? w _ hx177_1)).trans hx177_1
                            replace hx177_2 := (HB.out.cell (World.block_lt_of_cell? w _ hx177_2)).trans hx177_2
                            replace hx177_3 := (HB.out.cell (World.block_lt_of_cell? w _ hx177_3)).trans hx177_3
                            replace hx177_4 := (HB.out.cell (World.block_lt_of_cell? w _ hx177_4)).trans hx177_4
                            have HR177_4 := Aside0.mk hi177_4
                            have HC177_4 := Aside0.mk hl177_4
                            clear hi177_4 hl177_4
                            replace p177 := eq_true p177
                            replace q177 := eq_true q177
                            go_wp2
                            go_roundg k3
                            case measure => have := HK1.out; have := HJ3.out; have := HK3.out; omega
                            case rel => exact ⟨(x3_3), (wrap64 (x5_3 + 1)), (by first | rfl | (simp; done) | (simp [*]; done)), H', ⟨by have := HK1.out; have := HJ3.out; have := HK3.out; omega⟩, ⟨by (with_reducible repeat (first | apply Kd.R_alloc | apply Kd.R_drewN | apply Kd.R_drew)); exact HO_3.out⟩, ⟨by repeat (first | (with_reducible first | exact HB.out | apply below_alloc | apply pw_below_drewN | apply below_drew1) | exact HB.out)⟩⟩
                      · rw [if_neg c11] at H
                        exact absurd H (by simp)
                    · rw [if_neg c10] at H
                      have c10b0 : decide (x5_3 < (((rd_T38 l0 x4_1).f1).length : Int)) = false := decide_eq_false c10
                      clear c10
                      have H' := Aside0.mk H
                      clear H
                      have p173 : 0 ≤ (x4_1 : Int) := of_decide_eq_true (by first | (with_reducible assumption) | assumption)
                      have q173 : x4_1 < (l0.length : Int) := of_decide_eq_true (by first | (with_reducible assumption) | assumption)
                      obtain ⟨ad173, A173_1, c173_1, e173, hx173_0, hx173_1, hl173_1, hi173_1⟩ := at_T38 HR0.out x4_1 p173 q173
                      cases e173
                      replace hx173_0 := (HB.out.cell (World.block_lt_of_cell? w _ hx173_0)).trans hx173_0
                      replace hx173_1 := (HB.out.cell (World.block_lt_of_cell? w _ hx173_1)).trans hx173_1
                      have HR173_1 := Aside0.mk hi173_1
                      have HC173_1 := Aside0.mk hl173_1
                      clear hi173_1 hl173_1
                      replace p173 := eq_true p173
                      replace q173 := eq_true q173
                      go_wp2
                      go_roundg k3
                      case measure => have := HK1.out; have := HJ3.out; have := HK3.out; omega
                      case rel => exact ⟨(x3_3), (wrap64 (x4_1 + 1)), (by first | rfl | (simp; done) | (simp [*]; done)), H', ⟨by have := HK1.out; have := HJ3.out; have := HK3.out; omega⟩, ⟨by (with_reducible repeat (first | apply Kd.R_alloc | apply Kd.R_drewN | apply Kd.R_drew)); exact HO_3.out⟩, ⟨by repeat (first | (with_reducible first | exact HB.out | apply below_alloc | apply pw_below_drewN | apply below_drew1) | exact HB.out)⟩⟩
                  · rw [if_neg c9] at H
                    exact absurd H (by simp)
                · rw [if_neg c8] at H
                  exact absurd H (by simp)
          · replace c7 := Bool.eq_false_iff.mpr c7
            subst c7
            have H1 : (some x3_1) = some r := by rw [if_neg (show ¬ (false = true) by decide)] at H; exact H
            clear H
            have H := H1
            clear H1
            obtain rfl := Option.some.inj H
            go_wp2
            go_ret
            exact ⟨_, by first | rfl | (simp [errW_none, errW_some] <;> rfl) | (simp [*, errW_none, errW_some] <;> rfl), by (with_reducible repeat (first | apply Kd.R_alloc | apply Kd.R_drewN | apply Kd.R_drew)); exact HO_3.out, by repeat (first | (with_reducible first | exact HB.out | apply below_alloc | apply pw_below_drewN | apply below_drew1) | exact HB.out)⟩
end Go.Proofs.Ytokbonceeglciaa.Print
end
section
namespace Go.Proofs.Ytokbonceeglciaa.Print
open Go.Proofs.Ytokbonceeglciaa.Given
open Go.RowKit Go.Proofs.YtokbonceeglciaaW.PrintWords Go.Proofs.YtokbonceeglciaaW.PrintLast Go.Proofs.YtokbonceeglciaaW.PrintMore
attribute [local go_sem] max2_int min2_int max_two min_two max_three min_three max_four min_four
set_option linter.unusedVariables false
set_option linter.unusedSimpArgs false
mutual
def squintref13_Outs.l0 : Nat → List (S38) → List (S47) → Int → Option ((List (S47)))
  | 0, _, _, _ => none
  | k + 1, x0, x3, x4 => if x4 < (x0.length : Int) then ((squintref13_right.f k x0).bind fun t185 => (squintref13_Outs.j1 k x0 x3 x4 t185)) else (squintref13_Outs.j1 k x0 x3 x4 false)
def squintref13_Outs.j1 : Nat → List (S38) → List (S47) → Int → Bool → Option ((List (S47)))
  | 0, _, _, _, _ => none
  | k + 1, x0, x3, x4, x14 => if x14 = true then (squintref13_Outs.l1 k x0 x3 x4 0) else (some x3)
def squintref13_Outs.l1 : Nat → List (S38) → List (S47) → Int → Int → Option ((List (S47)))
  | 0, _, _, _, _ => none
  | k + 1, x0, x3, x4, x5 => if 0 ≤ x4 then (if x4 < (x0.length : Int) then (if x5 < (((rd_T38 x0 x4).f1).length : Int) then (if 0 ≤ x5 then (if (rd_T43 ((rd_T38 x0 x4).f1) x5).f1 = true then (if ((rd_T43 ((rd_T38 x0 x4).f1) x5).f0) = 2 then (if x3.length < 3518437208883 then (squintref13_Outs.l1 k x0 (x3 ++ [(⟨(rd_T38 x0 x4).f0, x5, (-1), 0, 2⟩ : S47)]) x4 (wrap64 (x5 + 1))) else (none)) else (squintref13_Outs.l1 k x0 x3 x4 (wrap64 (x5 + 1)))) else (squintref13_Outs.l1 k x0 x3 x4 (wrap64 (x5 + 1)))) else (none)) else (squintref13_Outs.l0 k x0 x3 (wrap64 (x4 + 1)))) else (none)) else (none)
end
def squintref13_Outs.f (k : Nat) (l0 : List (S38)) : Option ((List (S47))) := squintref13_Outs.l0 k l0 (([] : List (S47))) 0
set_option maxHeartbeats 8000000 in
set_option maxRecDepth 100000 in
theorem squintref13_Outs.calls (k : Nat) (A0 : Option Addr) (c0 : Nat) (l0 : List (S38)) (r : List (S47)) (w : World) (hr0 : Kd.C k38 w A0 l0.length l0) (hc0 : l0.length ≤ c0) (h : squintref13_Outs.f k l0 = some r) :
    Calls Try.prog 15 #[.slice A0 l0.length c0] w fun e w' => ∃ v0_ : Value, e = .returned (v0_) ∧ Kd.R k47 47 w' w.heap.size (fun _ => True) v0_ r ∧ Below w.heap.size w w' := by
  have hu47 := Try.underlying47
  have HR0 := Aside0.mk hr0
  have HC0 := Aside0.mk hc0
  clear hr0 hc0
  have HB := Aside0.mk (Below.refl w.heap.size w)
  have H : (squintref13_Outs.l0 k l0 (([] : List (S47))) 0) = some r := h
  clear h
  obtain ⟨y182, hy182⟩ : ∃ y_ : List (S47), y_ = (([] : List (S47))) := ⟨_, rfl⟩
  replace H : (squintref13_Outs.l0 k l0 y182 0) = some r := by first | (rw [hy182]; with_reducible exact H) | (have H2_ := (Option.bind_some _ _).symm.trans H; rw [hy182]; with_reducible exact H2_) | (have H2_ := (Option.bind_some _ _).symm.trans H; with_reducible exact H2_) | with_reducible exact H | (rw [hy182]; exact H) | exact H
  have Ny182 := Aside0.mk hy182
  clear hy182
  have H' := Aside0.mk H
  clear H
  go_enter Try.func15, Try.ntmps15
  go_wp2_with (first | ((with_reducible refine gate_dst (N := 6) rfl ?_); refine Kd.R_lit k47 _ 47 ?hg (N := 6) ?hd (xs := ([] : List (S47))) (inner := []) (ok := fun _ => True) (okp := fun _ => True) ?hr ?hp (fun _ hk => hk) trivial (Below.refl _ _) (Nat.le_refl _) (by simp) ?_; (case hd => rfl); (case hg => rfl); (case hr => first | (go_simp; done) | (go_simp; rfl)); (case hp => exact (Reps.none _ _)); intro v183 w2 ho3 hb hg_ hnew_; clear hg_ hnew_; (first | rw [← Ny182.out] at ho3 | (simp only [Int.reduceToNat] at ho3; rw [← Ny182.out] at ho3)); have n0_ := Aside0.mk (Kd.R_lower ho3 (below_size (by repeat (first | (with_reducible first | exact HB.out | apply below_alloc | apply pw_below_drewN | apply below_drew1) | exact HB.out)))); have n1_ := Aside0.mk (below_step (by repeat (first | (with_reducible first | exact HB.out | apply below_alloc | apply pw_below_drewN | apply below_drew1) | exact HB.out)) hb); clear HB; have HO184 := n0_; have HB := n1_; clear n0_ n1_; clear hb ho3))
  go_loopg [3, 4] k (fun kq v3 v4 w' => ∃ (x3_1 : List (S47)) (x4_1 : Int), v4 = .int .i64 x4_1 ∧ Aside0 (squintref13_Outs.l0 kq l0 x3_1 x4_1 = some r) ∧ Aside0 (kq ≤ k) ∧ Aside0 (Kd.R k47 47 w' w.heap.size (fun _ => True) v3 x3_1) ∧ Aside0 (Below w.heap.size w w'))
  case atStart => exact ⟨(y182), (0), (by first | rfl | (simp; done) | (simp [*]; done)), H', ⟨Nat.le_refl _⟩, ⟨by (with_reducible repeat (first | apply Kd.R_alloc | apply Kd.R_drewN | apply Kd.R_drew)); exact HO184.out⟩, ⟨by repeat (first | (with_reducible first | exact HB.out | apply below_alloc | apply pw_below_drewN | apply below_drew1) | exact HB.out)⟩⟩
  case round =>
    clear H'
    try clear c1
    try clear p2
    obtain ⟨x3_1, x4_1, rfl, HA, HK1, HO_3, HB⟩ := hrel
    cases gk with
    | zero => exact absurd HA.out (by simp [squintref13_Outs.l0])
    | succ k1 =>
      have H := HA.out
      clear HA
      simp only [squintref13_Outs.l0] at H
      have HC4 := Aside0.mk H
      clear H
      go_upto_region 3 with (fail)
      go_cut [14] (fun v14 wc => ∃ (kq : Nat) (x14_3 : Bool), v14 = .bool x14_3 ∧ Aside0 (squintref13_Outs.j1 kq l0 x3_1 x4_1 x14_3 = some r) ∧ Aside0 (kq ≤ k1) ∧ Aside0 (Kd.R k47 47 wc w.heap.size (fun _ => True) u3 x3_1) ∧ Aside0 (Below w.heap.size w wc))
      case first =>
        have H := HC4.out
        clear HC4
        by_cases c5 : x4_1 < (l0.length : Int)
        · rw [if_pos c5] at H
          have c5b0 : decide (x4_1 < (l0.length : Int)) = true := decide_eq_true c5
          clear c5
          (first | rw [c5b0] | (simp only [i64_w, i32_w]; rw [c5b0]) | skip)
          replace H := Option.bind_eq_some_iff.mp H
          obtain ⟨t185, A60, H⟩ := H
          replace H : (squintref13_Outs.j1 k1 l0 x3_1 x4_1 t185) = some r := H
          have A6 := Aside0.mk A60
          clear A60
          have H' := Aside0.mk H
          clear H
          go_wp2_with (first | (go_at_call 28; (with_reducible refine (squintref13_right.calls k1 _ _ l0 t185 _ ?side1 ?side2 A6.out).mono ?_); (case side1 => repeat (first | exact (Kd.C_below HR0.out HB.out) | (with_reducible refine Kd.C_alloc ?_ _) | (with_reducible refine Kd.C_drewN ?_ _) | (with_reducible refine Kd.C_drew ?_))); (case side2 => exact HC0.out); rintro e w' ⟨rfl, ⟨nd, rfl⟩⟩))
          go_meet
          case rel => exact ⟨_, (t185), (by first | rfl | (simp; done) | (simp [*]; done)), H', ⟨by have := HK1.out; first | omega | exact Nat.le_refl _⟩, ⟨by (with_reducible repeat (first | apply Kd.R_alloc | apply Kd.R_drewN | apply Kd.R_drew)); exact HO_3.out⟩, ⟨by repeat (first | (with_reducible first | exact HB.out | apply below_alloc | apply pw_below_drewN | apply below_drew1) | exact HB.out)⟩⟩
        · rw [if_neg c5] at H
          have c5b0 : decide (x4_1 < (l0.length : Int)) = false := decide_eq_false c5
          clear c5
          (first | rw [c5b0] | (simp only [i64_w, i32_w]; rw [c5b0]) | skip)
          have H' := Aside0.mk H
          clear H
          go_wp2
          go_meet
          case rel => exact ⟨_, (false), (by first | rfl | (simp; done) | (simp [*]; done)), H', ⟨by have := HK1.out; first | omega | exact Nat.le_refl _⟩, ⟨by (with_reducible repeat (first | apply Kd.R_alloc | apply Kd.R_drewN | apply Kd.R_drew)); exact HO_3.out⟩, ⟨by repeat (first | (with_reducible first | exact HB.out | apply below_alloc | apply pw_below_drewN | apply below_drew1) | exact HB.out)⟩⟩
      case rest =>
        clear HC4
        try clear c1
        try clear p2
        try clear c5
        try clear c5b0
        try clear p2
        obtain ⟨kq, x14_3, rfl, HA, HJ3, HO_3, HB⟩ := hcut
        cases kq with
        | zero => exact absurd HA.out (by simp [squintref13_Outs.j1])
        | succ kj3 =>
          have H := HA.out
          clear HA
          simp only [squintref13_Outs.j1] at H
          by_cases c7 : x14_3 = true
          · subst c7
            have H1 : (squintref13_Outs.l1 kj3 l0 x3_1 x4_1 0) = some r := by rw [if_pos rfl] at H; exact H
            clear H
            have H := H1
            clear H1
            have H' := Aside0.mk H
            clear H
            go_wp2
            go_loopg [3, 5] kj3 (fun kq v3 v5 w' => ∃ (x3_3 : List (S47)) (x5_3 : Int), v5 = .int .i64 x5_3 ∧ Aside0 (squintref13_Outs.l1 kq l0 x3_3 x4_1 x5_3 = some r) ∧ Aside0 (kq ≤ kj3) ∧ Aside0 (Kd.R k47 47 w' w.heap.size (fun _ => True) v3 x3_3) ∧ Aside0 (Below w.heap.size w w'))
            case atStart => exact ⟨(x3_1), (0), (by first | rfl | (simp; done) | (simp [*]; done)), H', ⟨Nat.le_refl _⟩, ⟨by (with_reducible repeat (first | apply Kd.R_alloc | apply Kd.R_drewN | apply Kd.R_drew)); exact HO_3.out⟩, ⟨by repeat (first | (with_reducible first | exact HB.out | apply below_alloc | apply pw_below_drewN | apply below_drew1) | exact HB.out)⟩⟩
            case round =>
              clear H'
              try clear c1
              try clear p2
              try clear c5
              try clear c5b0
              try clear c7
              try clear p2
              obtain ⟨x3_3, x5_3, rfl, HA, HK3, HO_3, HB⟩ := hrel
              cases gk with
              | zero => exact absurd HA.out (by simp [squintref13_Outs.l1])
              | succ k3 =>
                have H := HA.out
                clear HA
                simp only [squintref13_Outs.l1] at H
                by_cases c8 : 0 ≤ x4_1
                · rw [if_pos c8] at H
                  have c8b0 : decide (0 ≤ x4_1) = true := decide_eq_true c8
                  clear c8
                  by_cases c9 : x4_1 < (l0.length : Int)
                  · rw [if_pos c9] at H
                    have c9b0 : decide (x4_1 < (l0.length : Int)) = true := decide_eq_true c9
                    clear c9
                    by_cases c10 : x5_3 < (((rd_T38 l0 x4_1).f1).length : Int)
                    · rw [if_pos c10] at H
                      have c10b0 : decide (x5_3 < (((rd_T38 l0 x4_1).f1).length : Int)) = true := decide_eq_true c10
                      clear c10
                      by_cases c11 : 0 ≤ x5_3
                      · rw [if_pos c11] at H
                        have c11b0 : decide (0 ≤ x5_3) = true := decide_eq_true c11
                        clear c11
                        obtain ⟨bq12, hbq12⟩ : ∃ b_ : Bool, b_ = ((rd_T43 ((rd_T38 l0 x4_1).f1) x5_3).f1) := ⟨_, rfl⟩
                        replace H : (if bq12 = true then (if ((rd_T43 ((rd_T38 l0 x4_1).f1) x5_3).f0) = 2 then (if x3_3.length < 3518437208883 then (squintref13_Outs.l1 k3 l0 (x3_3 ++ [(⟨(rd_T38 l0 x4_1).f0, x5_3, (-1), 0, 2⟩ : S47)]) x4_1 (wrap64 (x5_3 + 1))) else (none)) else (squintref13_Outs.l1 k3 l0 x3_3 x4_1 (wrap64 (x5_3 + 1)))) else (squintref13_Outs.l1 k3 l0 x3_3 x4_1 (wrap64 (x5_3 + 1)))) = some r := by rw [← hbq12] at H; exact H
                        have Nbq12 := Aside0.mk hbq12
                        clear hbq12
                        by_cases c13 : bq12 = true
                        · subst c13
                          have H1 : (if ((rd_T43 ((rd_T38 l0 x4_1).f1) x5_3).f0) = 2 then (if x3_3.length < 3518437208883 then (squintref13_Outs.l1 k3 l0 (x3_3 ++ [(⟨(rd_T38 l0 x4_1).f0, x5_3, (-1), 0, 2⟩ : S47)]) x4_1 (wrap64 (x5_3 + 1))) else (none)) else (squintref13_Outs.l1 k3 l0 x3_3 x4_1 (wrap64 (x5_3 + 1)))) = some r := by rw [if_pos rfl] at H; exact H
                          clear H
                          have H := H1
                          clear H1
                          by_cases c14 : ((rd_T43 ((rd_T38 l0 x4_1).f1) x5_3).f0) = 2
                          · rw [if_pos c14] at H
                            have c14b0 : (((rd_T43 ((rd_T38 l0 x4_1).f1) x5_3).f0) == 2) = true := beq_iff_eq.mpr c14
                            have c14b1 : (((rd_T43 ((rd_T38 l0 x4_1).f1) x5_3).f0) != 2) = false := bne_eq_false_iff_eq.mpr c14
                            clear c14
                            by_cases c15 : x3_3.length < 3518437208883
                            · rw [if_pos c15] at H
                              have LMc15 := Aside0.mk c15
                              clear c15
                              obtain ⟨y192, hy192⟩ : ∃ y_ : List (S47), y_ = (x3_3 ++ [(⟨(rd_T38 l0 x4_1).f0, x5_3, (-1), 0, 2⟩ : S47)]) := ⟨_, rfl⟩
                              replace H : (squintref13_Outs.l1 k3 l0 y192 x4_1 (wrap64 (x5_3 + 1))) = some r := by first | (rw [hy192]; with_reducible exact H) | (have H2_ := (Option.bind_some _ _).symm.trans H; rw [hy192]; with_reducible exact H2_) | (have H2_ := (Option.bind_some _ _).symm.trans H; with_reducible exact H2_) | with_reducible exact H | (rw [hy192]; exact H) | exact H
                              have Ny192 := Aside0.mk hy192
                              clear hy192
                              have H' := Aside0.mk H
                              clear H
                              have p186 : 0 ≤ (x4_1 : Int) := of_decide_eq_true (by first | (with_reducible assumption) | assumption)
                              have q186 : x4_1 < (l0.length : Int) := of_decide_eq_true (by first | (with_reducible assumption) | assumption)
                              obtain ⟨ad186, A186_1, c186_1, e186, hx186_0, hx186_1, hl186_1, hi186_1⟩ := at_T38 HR0.out x4_1 p186 q186
                              cases e186
                              replace hx186_0 := (HB.out.cell (World.block_lt_of_cell? w _ hx186_0)).trans hx186_0
                              replace hx186_1 := (HB.out.cell (World.block_lt_of_cell? w _ hx186_1)).trans hx186_1
                              have HR186_1 := Aside0.mk hi186_1
                              have HC186_1 := Aside0.mk hl186_1
                              clear hi186_1 hl186_1
                              replace p186 := eq_true p186
                              replace q186 := eq_true q186
                              have p187 : 0 ≤ (x4_1 : Int) := of_decide_eq_true (by first | (with_reducible assumption) | assumption)
                              have q187 : x4_1 < (l0.length : Int) := of_decide_eq_true (by first | (with_reducible assumption) | assumption)
                              obtain ⟨ad187, A187_1, c187_1, e187, hx187_0, hx187_1, hl187_1, hi187_1⟩ := at_T38 HR0.out x4_1 p187 q187
                              obtain rfl : ad186 = ad187 := (by injection e187)
                              replace hx187_0 := (HB.out.cell (World.block_lt_of_cell? w _ hx187_0)).trans hx187_0
                              replace hx187_1 := (HB.out.cell (World.block_lt_of_cell? w _ hx187_1)).trans hx187_1
                              have HR187_1 := Aside0.mk hi187_1
                              have HC187_1 := Aside0.mk hl187_1
                              clear hi187_1 hl187_1
                              replace p187 := eq_true p187
                              replace q187 := eq_true q187
                              have ea_ := Option.some.inj (hx186_1.symm.trans hx187_1)
                              injection ea_ with ea_ en_ ec_
                              subst ea_
                              subst ec_
                              clear en_
                              have p188 : 0 ≤ (x5_3 : Int) := of_decide_eq_true (by first | (with_reducible assumption) | assumption)
                              have q188 : x5_3 < (((rd_T38 l0 x4_1).f1).length : Int) := of_decide_eq_true (by first | (with_reducible assumption) | assumption)
                              obtain ⟨ad188, A188_4, c188_4, e188, hx188_0, hx188_1, hx188_2, hx188_3, hx188_4, hl188_4, hi188_4⟩ := at_T43 HR187_1.out x5_3 p188 q188
                              (try rw [← Nbq12.out] at hx188_1)
                              cases e188
                              replace hx188_0 := (HB.out.cell (World.block_lt_of_cell? w _ hx188_0)).trans hx188_0
                              replace hx188_1 := (HB.out.cell (World.block_lt_of_cell? w _ hx188_1)).trans hx188_1
                              replace hx188_2 := (HB.out.cell (World.block_lt_of_cell? w _ hx188_2)).trans hx188_2
                              replace hx188_3 := (HB.out.cell (World.block_lt_of_cell? w _ hx188_3)).trans hx188_3
                              replace hx188_4 := (HB.out.cell (World.block_lt_of_cell? w _ hx188_4)).trans hx188_4
                              have HR188_4 := Aside0.mk hi188_4
                              have HC188_4 := Aside0.mk hl188_4
                              clear hi188_4 hl188_4
                              replace p188 := eq_true p188
                              replace q188 := eq_true q188
                              have p189 : 0 ≤ (x4_1 : Int) := of_decide_eq_true (by first | (with_reducible assumption) | assumption)
                              have q189 : x4_1 < (l0.length : Int) := of_decide_eq_true (by first | (with_reducible assumption) | assumption)
                              obtain ⟨ad189, A189_1, c189_1, e189, hx189_0, hx189_1, hl189_1, hi189_1⟩ := at_T38 HR0.out x4_1 p189 q189
                              obtain rfl : ad186 = ad189 := (by injection e189)
                              replace hx189_0 := (HB.out.cell (World.block_lt_of_cell? w _ hx189_0)).trans hx189_0
                              replace hx189_1 := (HB.out.cell (World.block_lt_of_cell? w _ hx189_1)).trans hx189_1
                              have HR189_1 := Aside0.mk hi189_1
                              have HC189_1 := Aside0.mk hl189_1
                              clear hi189_1 hl189_1
                              replace p189 := eq_true p189
                              replace q189 := eq_true q189
                              have ea_ := Option.some.inj (hx186_1.symm.trans hx189_1)
                              injection ea_ with ea_ en_ ec_
                              subst ea_
                              subst ec_
                              clear en_
                              have p190 : 0 ≤ (x5_3 : Int) := of_decide_eq_true (by first | (with_reducible assumption) | assumption)
                              have q190 : x5_3 < (((rd_T38 l0 x4_1).f1).length : Int) := of_decide_eq_true (by first | (with_reducible assumption) | assumption)
                              obtain ⟨ad190, A190_4, c190_4, e190, hx190_0, hx190_1, hx190_2, hx190_3, hx190_4, hl190_4, hi190_4⟩ := at_T43 HR189_1.out x5_3 p190 q190
                              (try rw [← Nbq12.out] at hx190_1)
                              cases e190
                              replace hx190_0 := (HB.out.cell (World.block_lt_of_cell? w _ hx190_0)).trans hx190_0
                              replace hx190_1 := (HB.out.cell (World.block_lt_of_cell? w _ hx190_1)).trans hx190_1
                              replace hx190_2 := (HB.out.cell (World.block_lt_of_cell? w _ hx190_2)).trans hx190_2
                              replace hx190_3 := (HB.out.cell (World.block_lt_of_cell? w _ hx190_3)).trans hx190_3
                              replace hx190_4 := (HB.out.cell (World.block_lt_of_cell? w _ hx190_4)).trans hx190_4
                              have HR190_4 := Aside0.mk hi190_4
                              have HC190_4 := Aside0.mk hl190_4
                              clear hi190_4 hl190_4
                              replace p190 := eq_true p190
                              replace q190 := eq_true q190
                              have p191 : 0 ≤ (x4_1 : Int) := of_decide_eq_true (by first | (with_reducible assumption) | assumption)
                              have q191 : x4_1 < (l0.length : Int) := of_decide_eq_true (by first | (with_reducible assumption) | assumption)
                              obtain ⟨ad191, A191_1, c191_1, e191, hx191_0, hx191_1, hl191_1, hi191_1⟩ := at_T38 HR0.out x4_1 p191 q191
                              obtain rfl : ad186 = ad191 := (by injection e191)
                              replace hx191_0 := (HB.out.cell (World.block_lt_of_cell? w _ hx191_0)).trans hx191_0
                              replace hx191_1 := (HB.out.cell (World.block_lt_of_cell? w _ hx191_1)).trans hx191_1
                              have HR191_1 := Aside0.mk hi191_1
                              have HC191_1 := Aside0.mk hl191_1
                              clear hi191_1 hl191_1
                              replace p191 := eq_true p191
                              replace q191 := eq_true q191
                              have ea_ := Option.some.inj (hx186_1.symm.trans hx191_1)
                              injection ea_ with ea_ en_ ec_
                              subst ea_
                              subst ec_
                              clear en_
                              go_wp2_with (first | ((with_reducible refine gate_builtin (b := .append) (xs := #[.tmp 48, .tmp 56]) rfl ?_); at_builtin; refine Kd.R_append k47 (w0 := w) w.heap.size rfl (.tmp 48) (.tmp 56) 33 47 (.agg #[(.int .i64 0), (.int .i64 0), (.int .i64 0), (.int .i64 0), (.int .i64 0)]) 40 rfl Try.underlying33 info47 rfl (by decide) (by omega) u3 x3_3 (⟨(rd_T38 l0 x4_1).f0, x5_3, (-1), 0, 2⟩ : S47) [.int .i64 ((rd_T38 l0 x4_1).f0), .int .i64 x5_3, .int .i64 (-1), .int .i64 0, .int .i64 2] (fun _ => True) (fun _ => False) rfl rfl ?aP (fun _ hk => hk.elim) ?aF ?aO ?aB ?aS ?aL ?_; (case aP => exact k47_mkM _ _ _ (⟨(rd_T38 l0 x4_1).f0, x5_3, (-1), 0, 2⟩ : S47)); (case aB => exact (by repeat (first | (with_reducible first | exact HB.out | apply below_alloc | apply pw_below_drewN | apply below_drew1) | exact HB.out))); (case aF => exact (fun _ _ => trivial)); (case aO => exact (by (with_reducible repeat (first | apply Kd.R_alloc | apply Kd.R_drewN | apply Kd.R_drew)); exact HO_3.out)); (case aS => exact (below_size (by repeat (first | (with_reducible first | exact HB.out | apply below_alloc | apply pw_below_drewN | apply below_drew1) | exact HB.out)))); (case aL => have := LMc15.out; omega); intro v193 w16 ho hb hg hat; rw [← Ny192.out] at ho; have n0_ := Aside0.mk (hb); have n1_ := Aside0.mk (ho); clear HB; clear HO_3; have HB := n0_; have HO194 := n1_; clear n0_ n1_; clear ho hb hg hat))
                              go_roundg k3
                              case measure => have := HK1.out; have := HJ3.out; have := HK3.out; omega
                              case rel => exact ⟨(y192), (wrap64 (x5_3 + 1)), (by first | rfl | (simp; done) | (simp [*]; done)), H', ⟨by have := HK1.out; have := HJ3.out; have := HK3.out; omega⟩, ⟨by (with_reducible repeat (first | apply Kd.R_alloc | apply Kd.R_drewN | apply Kd.R_drew)); exact HO194.out⟩, ⟨by repeat (first | (with_reducible first | exact HB.out | apply below_alloc | apply pw_below_drewN | apply below_drew1) | exact HB.out)⟩⟩
                            · rw [if_neg c15] at H
                              exact absurd H (by simp)
                          · rw [if_neg c14] at H
                            have c14b0 : (((rd_T43 ((rd_T38 l0 x4_1).f1) x5_3).f0) == 2) = false := beq_eq_false_iff_ne.mpr c14
                            have c14b1 : (((rd_T43 ((rd_T38 l0 x4_1).f1) x5_3).f0) != 2) = true := bne_iff_ne.mpr c14
                            have H' := Aside0.mk H
                            clear H
                            have p186 : 0 ≤ (x4_1 : Int) := of_decide_eq_true (by first | (with_reducible assumption) | assumption)
                            have q186 : x4_1 < (l0.length : Int) := of_decide_eq_true (by first | (with_reducible assumption) | assumption)
                            obtain ⟨ad186, A186_1, c186_1, e186, hx186_0, hx186_1, hl186_1, hi186_1⟩ := at_T38 HR0.out x4_1 p186 q186
                            cases e186
                            replace hx186_0 := (HB.out.cell (World.block_lt_of_cell? w _ hx186_0)).trans hx186_0
                            replace hx186_1 := (HB.out.cell (World.block_lt_of_cell? w _ hx186_1)).trans hx186_1
                            have HR186_1 := Aside0.mk hi186_1
                            have HC186_1 := Aside0.mk hl186_1
                            clear hi186_1 hl186_1
                            replace p186 := eq_true p186
                            replace q186 := eq_true q186
                            have p187 : 0 ≤ (x4_1 : Int) := of_decide_eq_true (by first | (with_reducible assumption) | assumption)
                            have q187 : x4_1 < (l0.length : Int) := of_decide_eq_true (by first | (with_reducible assumption) | assumption)
                            obtain ⟨ad187, A187_1, c187_1, e187, hx187_0, hx187_1, hl187_1, hi187_1⟩ := at_T38 HR0.out x4_1 p187 q187
                            obtain rfl : ad186 = ad187 := (by injection e187)
                            replace hx187_0 := (HB.out.cell (World.block_lt_of_cell? w _ hx187_0)).trans hx187_0
                            replace hx187_1 := (HB.out.cell (World.block_lt_of_cell? w _ hx187_1)).trans hx187_1
                            have HR187_1 := Aside0.mk hi187_1
                            have HC187_1 := Aside0.mk hl187_1
                            clear hi187_1 hl187_1
                            replace p187 := eq_true p187
                            replace q187 := eq_true q187
                            have ea_ := Option.some.inj (hx186_1.symm.trans hx187_1)
                            injection ea_ with ea_ en_ ec_
                            subst ea_
                            subst ec_
                            clear en_
                            have p188 : 0 ≤ (x5_3 : Int) := of_decide_eq_true (by first | (with_reducible assumption) | assumption)
                            have q188 : x5_3 < (((rd_T38 l0 x4_1).f1).length : Int) := of_decide_eq_true (by first | (with_reducible assumption) | assumption)
                            obtain ⟨ad188, A188_4, c188_4, e188, hx188_0, hx188_1, hx188_2, hx188_3, hx188_4, hl188_4, hi188_4⟩ := at_T43 HR187_1.out x5_3 p188 q188
                            (try rw [← Nbq12.out] at hx188_1)
                            cases e188
                            replace hx188_0 := (HB.out.cell (World.block_lt_of_cell? w _ hx188_0)).trans hx188_0
                            replace hx188_1 := (HB.out.cell (World.block_lt_of_cell? w _ hx188_1)).trans hx188_1
                            replace hx188_2 := (HB.out.cell (World.block_lt_of_cell? w _ hx188_2)).trans hx188_2
                            replace hx188_3 := (HB.out.cell (World.block_lt_of_cell? w _ hx188_3)).trans hx188_3
                            replace hx188_4 := (HB.out.cell (World.block_lt_of_cell? w _ hx188_4)).trans hx188_4
                            have HR188_4 := Aside0.mk hi188_4
                            have HC188_4 := Aside0.mk hl188_4
                            clear hi188_4 hl188_4
                            replace p188 := eq_true p188
                            replace q188 := eq_true q188
                            have p189 : 0 ≤ (x4_1 : Int) := of_decide_eq_true (by first | (with_reducible assumption) | assumption)
                            have q189 : x4_1 < (l0.length : Int) := of_decide_eq_true (by first | (with_reducible assumption) | assumption)
                            obtain ⟨ad189, A189_1, c189_1, e189, hx189_0, hx189_1, hl189_1, hi189_1⟩ := at_T38 HR0.out x4_1 p189 q189
                            obtain rfl : ad186 = ad189 := (by injection e189)
                            replace hx189_0 := (HB.out.cell (World.block_lt_of_cell? w _ hx189_0)).trans hx189_0
                            replace hx189_1 := (HB.out.cell (World.block_lt_of_cell? w _ hx189_1)).trans hx189_1
                            have HR189_1 := Aside0.mk hi189_1
                            have HC189_1 := Aside0.mk hl189_1
                            clear hi189_1 hl189_1
                            replace p189 := eq_true p189
                            replace q189 := eq_true q189
                            have ea_ := Option.some.inj (hx186_1.symm.trans hx189_1)
                            injection ea_ with ea_ en_ ec_
                            subst ea_
                            subst ec_
                            clear en_
                            have p190 : 0 ≤ (x5_3 : Int) := of_decide_eq_true (by first | (with_reducible assumption) | assumption)
                            have q190 : x5_3 < (((rd_T38 l0 x4_1).f1).length : Int) := of_decide_eq_true (by first | (with_reducible assumption) | assumption)
                            obtain ⟨ad190, A190_4, c190_4, e190, hx190_0, hx190_1, hx190_2, hx190_3, hx190_4, hl190_4, hi190_4⟩ := at_T43 HR189_1.out x5_3 p190 q190
                            (try rw [← Nbq12.out] at hx190_1)
                            cases e190
                            replace hx190_0 := (HB.out.cell (World.block_lt_of_cell? w _ hx190_0)).trans hx190_0
                            replace hx190_1 := (HB.out.cell (World.block_lt_of_cell? w _ hx190_1)).trans hx190_1
                            replace hx190_2 := (HB.out.cell (World.block_lt_of_cell? w _ hx190_2)).trans hx190_2
                            replace hx190_3 := (HB.out.cell (World.block_lt_of_cell? w _ hx190_3)).trans hx190_3
                            replace hx190_4 := (HB.out.cell (World.block_lt_of_cell? w _ hx190_4)).trans hx190_4
                            have HR190_4 := Aside0.mk hi190_4
                            have HC190_4 := Aside0.mk hl190_4
                            clear hi190_4 hl190_4
                            replace p190 := eq_true p190
                            replace q190 := eq_true q190
                            go_wp2
                            go_roundg k3
                            case measure => have := HK1.out; have := HJ3.out; have := HK3.out; omega
                            case rel => exact ⟨(x3_3), (wrap64 (x5_3 + 1)), (by first | rfl | (simp; done) | (simp [*]; done)), H', ⟨by have := HK1.out; have := HJ3.out; have := HK3.out; omega⟩, ⟨by (with_reducible repeat (first | apply Kd.R_alloc | apply Kd.R_drewN | apply Kd.R_drew)); exact HO_3.out⟩, ⟨by repeat (first | (with_reducible first | exact HB.out | apply below_alloc | apply pw_below_drewN | apply below_drew1) | exact HB.out)⟩⟩
                        · replace c13 := Bool.eq_false_iff.mpr c13
                          subst c13
                          have H1 : (squintref13_Outs.l1 k3 l0 x3_3 x4_1 (wrap64 (x5_3 + 1))) = some r := by rw [if_neg (show ¬ (false = true) by decide)] at H; exact H
                          clear H
                          have H := H1
                          clear H1
                          have H' := Aside0.mk H
                          clear H
                          have p186 : 0 ≤ (x4_1 : Int) := of_decide_eq_true (by first | (with_reducible assumption) | assumption)
                          have q186 : x4_1 < (l0.length : Int) := of_decide_eq_true (by first | (with_reducible assumption) | assumption)
                          obtain ⟨ad186, A186_1, c186_1, e186, hx186_0, hx186_1, hl186_1, hi186_1⟩ := at_T38 HR0.out x4_1 p186 q186
                          cases e186
                          replace hx186_0 := (HB.out.cell (World.block_lt_of_cell? w _ hx186_0)).trans hx186_0
                          replace hx186_1 := (HB.out.cell (World.block_lt_of_cell? w _ hx186_1)).trans hx186_1
                          have HR186_1 := Aside0.mk hi186_1
                          have HC186_1 := Aside0.mk hl186_1
                          clear hi186_1 hl186_1
                          replace p186 := eq_true p186
                          replace q186 := eq_true q186
                          have p187 : 0 ≤ (x4_1 : Int) := of_decide_eq_true (by first | (with_reducible assumption) | assumption)
                          have q187 : x4_1 < (l0.length : Int) := of_decide_eq_true (by first | (with_reducible assumption) | assumption)
                          obtain ⟨ad187, A187_1, c187_1, e187, hx187_0, hx187_1, hl187_1, hi187_1⟩ := at_T38 HR0.out x4_1 p187 q187
                          obtain rfl : ad186 = ad187 := (by injection e187)
                          replace hx187_0 := (HB.out.cell (World.block_lt_of_cell? w _ hx187_0)).trans hx187_0
                          replace hx187_1 := (HB.out.cell (World.block_lt_of_cell? w _ hx187_1)).trans hx187_1
                          have HR187_1 := Aside0.mk hi187_1
                          have HC187_1 := Aside0.mk hl187_1
                          clear hi187_1 hl187_1
                          replace p187 := eq_true p187
                          replace q187 := eq_true q187
                          have ea_ := Option.some.inj (hx186_1.symm.trans hx187_1)
                          injection ea_ with ea_ en_ ec_
                          subst ea_
                          subst ec_
                          clear en_
                          have p188 : 0 ≤ (x5_3 : Int) := of_decide_eq_true (by first | (with_reducible assumption) | assumption)
                          have q188 : x5_3 < (((rd_T38 l0 x4_1).f1).length : Int) := of_decide_eq_true (by first | (with_reducible assumption) | assumption)
                          obtain ⟨ad188, A188_4, c188_4, e188, hx188_0, hx188_1, hx188_2, hx188_3, hx188_4, hl188_4, hi188_4⟩ := at_T43 HR187_1.out x5_3 p188 q188
                          (try rw [← Nbq12.out] at hx188_1)
                          cases e188
                          replace hx188_0 := (HB.out.cell (World.block_lt_of_cell? w _ hx188_0)).trans hx188_0
                          replace hx188_1 := (HB.out.cell (World.block_lt_of_cell? w _ hx188_1)).trans hx188_1
                          replace hx188_2 := (HB.out.cell (World.block_lt_of_cell? w _ hx188_2)).trans hx188_2
                          replace hx188_3 := (HB.out.cell (World.block_lt_of_cell? w _ hx188_3)).trans hx188_3
                          replace hx188_4 := (HB.out.cell (World.block_lt_of_cell? w _ hx188_4)).trans hx188_4
                          have HR188_4 := Aside0.mk hi188_4
                          have HC188_4 := Aside0.mk hl188_4
                          clear hi188_4 hl188_4
                          replace p188 := eq_true p188
                          replace q188 := eq_true q188
                          go_wp2
                          go_roundg k3
                          case measure => have := HK1.out; have := HJ3.out; have := HK3.out; omega
                          case rel => exact ⟨(x3_3), (wrap64 (x5_3 + 1)), (by first | rfl | (simp; done) | (simp [*]; done)), H', ⟨by have := HK1.out; have := HJ3.out; have := HK3.out; omega⟩, ⟨by (with_reducible repeat (first | apply Kd.R_alloc | apply Kd.R_drewN | apply Kd.R_drew)); exact HO_3.out⟩, ⟨by repeat (first | (with_reducible first | exact HB.out | apply below_alloc | apply pw_below_drewN | apply below_drew1) | exact HB.out)⟩⟩
                      · rw [if_neg c11] at H
                        exact absurd H (by simp)
                    · rw [if_neg c10] at H
                      have c10b0 : decide (x5_3 < (((rd_T38 l0 x4_1).f1).length : Int)) = false := decide_eq_false c10
                      clear c10
                      have H' := Aside0.mk H
                      clear H
                      have p186 : 0 ≤ (x4_1 : Int) := of_decide_eq_true (by first | (with_reducible assumption) | assumption)
                      have q186 : x4_1 < (l0.length : Int) := of_decide_eq_true (by first | (with_reducible assumption) | assumption)
                      obtain ⟨ad186, A186_1, c186_1, e186, hx186_0, hx186_1, hl186_1, hi186_1⟩ := at_T38 HR0.out x4_1 p186 q186
                      cases e186
                      replace hx186_0 := (HB.out.cell (World.block_lt_of_cell? w _ hx186_0)).trans hx186_0
                      replace hx186_1 := (HB.out.cell (World.block_lt_of_cell? w _ hx186_1)).trans hx186_1
                      have HR186_1 := Aside0.mk hi186_1
                      have HC186_1 := Aside0.mk hl186_1
                      clear hi186_1 hl186_1
                      replace p186 := eq_true p186
                      replace q186 := eq_true q186
                      go_wp2
                      go_roundg k3
                      case measure => have := HK1.out; have := HJ3.out; have := HK3.out; omega
                      case rel => exact ⟨(x3_3), (wrap64 (x4_1 + 1)), (by first | rfl | (simp; done) | (simp [*]; done)), H', ⟨by have := HK1.out; have := HJ3.out; have := HK3.out; omega⟩, ⟨by (with_reducible repeat (first | apply Kd.R_alloc | apply Kd.R_drewN | apply Kd.R_drew)); exact HO_3.out⟩, ⟨by repeat (first | (with_reducible first | exact HB.out | apply below_alloc | apply pw_below_drewN | apply below_drew1) | exact HB.out)⟩⟩
                  · rw [if_neg c9] at H
                    exact absurd H (by simp)
                · rw [if_neg c8] at H
                  exact absurd H (by simp)
          · replace c7 := Bool.eq_false_iff.mpr c7
            subst c7
            have H1 : (some x3_1) = some r := by rw [if_neg (show ¬ (false = true) by decide)] at H; exact H
            clear H
            have H := H1
            clear H1
            obtain rfl := Option.some.inj H
            go_wp2
            go_ret
            exact ⟨_, by first | rfl | (simp [errW_none, errW_some] <;> rfl) | (simp [*, errW_none, errW_some] <;> rfl), by (with_reducible repeat (first | apply Kd.R_alloc | apply Kd.R_drewN | apply Kd.R_drew)); exact HO_3.out, by repeat (first | (with_reducible first | exact HB.out | apply below_alloc | apply pw_below_drewN | apply below_drew1) | exact HB.out)⟩
end Go.Proofs.Ytokbonceeglciaa.Print
end
section
namespace Go.Proofs.Ytokbonceeglciaa.Given
open Go.RowKit Go.Shelf Go.Proofs.YtokbonceeglciaaW.PrintWords Go.Proofs.YtokbonceeglciaaW.PrintLast Go.Proofs.YtokbonceeglciaaW.PrintMore Go.Proofs.Ytokbonceeglciaa.Print
set_option linter.unusedVariables false
set_option linter.unusedSimpArgs false
def Ev {α : Type} (f : Nat → Option α) (v : α) : Prop := ∃ K, ∀ k, K ≤ k → f k = some v
theorem Ev.step {α : Type} {f g : Nat → Option α} {v : α} (h : Ev g v) (hf : ∀ k, f (k + 1) = g k) : Ev f v := by
  obtain ⟨K, hK⟩ := h
  refine ⟨K + 1, fun k hk => ?_⟩
  obtain ⟨n, rfl⟩ : ∃ n, k = n + 1 := ⟨k - 1, by omega⟩
  rw [hf]
  exact hK n (by omega)
theorem Ev.done {α : Type} {f : Nat → Option α} {v : α} (hf : ∀ k, f (k + 1) = some v) : Ev f v := ⟨1, fun k hk => by
  obtain ⟨n, rfl⟩ : ∃ n, k = n + 1 := ⟨k - 1, by omega⟩
  exact hf n⟩
theorem Ev.eq {α : Type} {f g : Nat → Option α} {v : α} (h : Ev g v) (hf : ∀ k, f k = g k) : Ev f v := by
  obtain ⟨K, hK⟩ := h
  exact ⟨K, fun k hk => (hf k).trans (hK k hk)⟩
theorem Ev.bind {α β : Type} {f : Nat → Option α} {F : Nat → α → Option β} {v : α} {u : β} (h : Ev f v) (hF : Ev (fun k => F k v) u) : Ev (fun k => (f k).bind fun x => F k x) u := by
  obtain ⟨K, hK⟩ := h
  obtain ⟨K2, hK2⟩ := hF
  refine ⟨max K K2, fun k hk => ?_⟩
  show (f k).bind _ = some u
  rw [hK k (by omega)]
  exact hK2 k (by omega)
theorem Ev.get {α : Type} {f : Nat → Option α} {v : α} (h : Ev f v) : ∃ k, f k = some v := by
  obtain ⟨K, hK⟩ := h
  exact ⟨K, hK K (Nat.le_refl _)⟩
theorem wrap_succ (n : Nat) (h : n < 9223372036854775807) : wrap64 ((n : Int) + 1) = ((n + 1 : Nat) : Int) := by simp only [wrap64]; omega
theorem rd38 {l : List S38} {n : Nat} (h : n < l.length) : rd_T38 l (n : Int) = l[n] := by
  unfold rd_T38
  rw [Int.toNat_natCast, List.getD_eq_getElem?_getD, List.getElem?_eq_getElem h]
  rfl
theorem rd43 {l : List S43} {n : Nat} (h : n < l.length) : rd_T43 l (n : Int) = l[n] := by
  unfold rd_T43
  rw [Int.toNat_natCast, List.getD_eq_getElem?_getD, List.getElem?_eq_getElem h]
  rfl
theorem ref_right_loop (l : List S38) (hm : l.length ≤ 4611686018427387904) : ∀ (d n : Nat) (last : Int), n + d = l.length → ((n = 0 ∧ last = -1) ∨ (0 < n ∧ 0 ≤ last ∧ (rd_T38 l ((n - 1 : Nat) : Int)).f0 = last)) → Ev (fun k => squintref13_right.l0 k l (n : Int)) (rightGo last (l.drop n))
  | 0, n, last, hd, hl => by
    refine Ev.done fun k => ?_
    unfold squintref13_right.l0
    rw [if_neg (by omega), List.drop_eq_nil_of_le (by omega)]
    rfl
  | d + 1, n, last, hd, hl => by
    have hn : n < l.length := by omega
    rw [List.drop_eq_getElem_cons hn]
    unfold rightGo
    have e1 := wrap_succ n (by omega)
    have ih := ref_right_loop l hm d (n + 1) l[n].f0 (by omega)
    by_cases h1 : l[n].f0 ≤ last
    · rw [if_pos h1]
      refine Ev.done fun k => ?_
      unfold squintref13_right.l0
      rw [if_pos (by omega), if_pos (by omega), rd38 hn]
      by_cases h2 : l[n].f0 < 0
      · rw [if_pos h2]
      · rw [if_neg h2]
        rcases hl with ⟨h3, h4⟩ | ⟨h3, h4, h5⟩
        · omega
        · have ew : wrap64 ((n : Int) - 1) = ((n - 1 : Nat) : Int) := by simp only [wrap64]; omega
          rw [if_pos (by omega), ew, if_pos (by omega), if_pos (by omega), h5, if_pos h1]
    · rw [if_neg h1]
      have h2 : ¬ l[n].f0 < 0 := by rcases hl with ⟨h3, h4⟩ | ⟨h3, h4, h5⟩ <;> omega
      refine (ih (.inr ⟨by omega, by omega, by rw [Nat.add_sub_cancel, rd38 hn]⟩)).step fun k => ?_
      show squintref13_right.l0 (k + 1) l (n : Int) = squintref13_right.l0 k l ((n + 1 : Nat) : Int)
      conv => lhs; unfold squintref13_right.l0
      rw [if_pos (by omega), if_pos (by omega), rd38 hn, if_neg h2, e1]
      rcases hl with ⟨h3, h4⟩ | ⟨h3, h4, h5⟩
      · rw [if_neg (by omega)]
      · have ew : wrap64 ((n : Int) - 1) = ((n - 1 : Nat) : Int) := by simp only [wrap64]; omega
        rw [if_pos (by omega), ew, if_pos (by omega), if_pos (by omega), h5, if_neg h1]
theorem ref_right (l : List S38) (hm : l.length ≤ 4611686018427387904) : Ev (fun k => squintref13_right.f k l) (rightOf l) := by
  have := ref_right_loop l hm l.length 0 (-1) (by omega) (.inl ⟨rfl, rfl⟩)
  rw [List.drop_zero] at this
  exact this
def rowT (p q : Nat) (pid i : Int) (a : S43) (qid : Int) (j : Nat) (bs : List S43) : List S47 := if p = q ∨ a.f1 = false ∨ ¬ 0 < a.f0 then [] else (selR (recvX a.f0) j bs).map fun r => ⟨pid, i, qid, r.1, a.f0⟩
def rowsQ (p : Nat) (pid i : Int) (a : S43) : Nat → List S38 → List S47
  | _, [] => []
  | q, y :: r => rowT p q pid i a y.f0 0 y.f1 ++ rowsQ p pid i a (q + 1) r
def rowsI (l : List S38) (p : Nat) (pid : Int) : Nat → List S43 → List S47
  | _, [] => []
  | i, a :: r => rowsQ p pid i a 0 l ++ rowsI l p pid (i + 1) r
def rowsP (l : List S38) : Nat → List S38 → List S47
  | _, [] => []
  | p, x :: r => rowsI l p x.f0 0 x.f1 ++ rowsP l (p + 1) r
theorem rowT_yes (p q : Nat) (pid i : Int) (a b : S43) (qid : Int) (j : Nat) (bs : List S43) (h1 : p ≠ q) (h2 : a.f1 = true) (h3 : b.f1 = false) (h4 : a.f0 = b.f0) (h5 : 0 < a.f0) : rowT p q pid i a qid j (b :: bs) = ⟨pid, i, qid, j, a.f0⟩ :: rowT p q pid i a qid (j + 1) bs := by
  unfold rowT
  have hc : ¬ (p = q ∨ a.f1 = false ∨ ¬ 0 < a.f0) := by rintro (h | h | h); exact h1 h; rw [h2] at h; cases h; exact h h5
  rw [if_neg hc, if_neg hc]
  have hr : recvX a.f0 b = true := by simp [recvX, h3, h4]; omega
  conv => lhs; unfold selR
  rw [if_pos hr, List.map_cons]
theorem rowT_no (p q : Nat) (pid i : Int) (a b : S43) (qid : Int) (j : Nat) (bs : List S43) (h : ¬ (p ≠ q ∧ a.f1 = true ∧ b.f1 = false ∧ a.f0 = b.f0 ∧ 0 < a.f0)) : rowT p q pid i a qid j (b :: bs) = rowT p q pid i a qid (j + 1) bs := by
  unfold rowT
  by_cases hc : p = q ∨ a.f1 = false ∨ ¬ 0 < a.f0
  · rw [if_pos hc, if_pos hc]
  · rw [if_neg hc, if_neg hc]
    have h1 : p ≠ q := fun e => hc (.inl e)
    have h2 : a.f1 = true := by cases h2 : a.f1 with
      | true => rfl
      | false => exact absurd (.inr (.inl h2)) hc
    have h5 : 0 < a.f0 := by
      rcases Int.lt_or_le 0 a.f0 with h5 | h5
      · exact h5
      · exact absurd (.inr (.inr (by omega))) hc
    have hr : ¬ recvX a.f0 b = true := by
      intro hr
      simp only [recvX, Bool.and_eq_true, Bool.not_eq_true', decide_eq_true_eq, Bool.or_eq_true, beq_iff_eq] at hr
      exact h ⟨h1, h2, hr.1, by omega, h5⟩
    conv => lhs; unfold selR
    rw [if_neg hr]
section
variable (l : List S38) (hm : l.length ≤ 4611686018427387904) (ha : ∀ x ∈ l, x.f1.length ≤ 4611686018427387904)
include ha in
theorem ref_l3 (p i q : Nat) (hp : p < l.length) (hi : i < l[p].f1.length) (hq : q < l.length) (v : List S47) : ∀ (d j : Nat) (out : List S47), j + d = l[q].f1.length →
    Ev (fun k => squintref13_Pairs.l2 k l (out ++ rowT p q l[p].f0 i l[p].f1[i] l[q].f0 j (l[q].f1.drop j)) (p : Int) (i : Int) (wrap64 ((q : Int) + 1))) v →
    (out ++ rowT p q l[p].f0 i l[p].f1[i] l[q].f0 j (l[q].f1.drop j)).length < 3518437208883 → Ev (fun k => squintref13_Pairs.l3 k l out (p : Int) (i : Int) (q : Int) (j : Int)) v
  | 0, j, out, hd, h, hb => by
    refine h.step fun k => ?_
    show squintref13_Pairs.l3 (k + 1) l out (p : Int) (i : Int) (q : Int) (j : Int) = _
    rw [squintref13_Pairs.l3]
    have e : rowT p q l[p].f0 i l[p].f1[i] l[q].f0 j (l[q].f1.drop j) = [] := by
      rw [List.drop_eq_nil_of_le (by omega)]
      unfold rowT
      split
      · rfl
      · rfl
    rw [e, List.append_nil, if_pos (by omega), if_pos (by omega), rd38 hq, if_neg (by omega)]
  | d + 1, j, out, hd, h, hb => by
    have hj : j < l[q].f1.length := by omega
    have hql := ha l[q] (List.getElem_mem hq)
    have ew := wrap_succ j (by omega)
    obtain ⟨a, hae⟩ : ∃ a, a = l[p].f1[i] := ⟨_, rfl⟩
    obtain ⟨b, hbe⟩ : ∃ b, b = l[q].f1[j] := ⟨_, rfl⟩
    rw [List.drop_eq_getElem_cons hj, ← hae, ← hbe] at h hb
    have ih := ref_l3 p i q hp hi hq v d (j + 1)
    rw [← hae] at ih
    by_cases hc : p ≠ q ∧ a.f1 = true ∧ b.f1 = false ∧ a.f0 = b.f0 ∧ 0 < a.f0
    · obtain ⟨h1, h2, h3, h4, h5⟩ := hc
      rw [rowT_yes p q _ _ a b _ _ _ h1 h2 h3 h4 h5] at h hb
      have ih2 := ih (out ++ [⟨l[p].f0, i, l[q].f0, j, a.f0⟩]) (by omega) (by rw [List.append_assoc]; exact h) (by rw [List.append_assoc]; exact hb)
      refine ih2.step fun k => ?_
      show squintref13_Pairs.l3 (k + 1) l out (p : Int) (i : Int) (q : Int) (j : Int) = squintref13_Pairs.l3 k l _ (p : Int) (i : Int) (q : Int) ((j + 1 : Nat) : Int)
      conv => lhs; rw [squintref13_Pairs.l3]
      have hlen : out.length < 3518437208883 := by rw [List.length_append] at hb; omega
      rw [if_pos (by omega), if_pos (by omega), rd38 hq, rd38 hp, if_pos (by omega), if_pos (by omega), if_pos (by omega), if_pos (by omega), if_pos (by omega), if_pos (by omega), if_neg (by omega), rd43 hi, rd43 hj, ← hae, ← hbe, if_pos h2, if_neg (by rw [h3]; simp), if_pos h4, if_pos (by omega), if_pos hlen, ew]
    · rw [rowT_no p q _ _ a b _ _ _ hc] at h hb
      have ih2 := ih out (by omega) h hb
      refine ih2.step fun k => ?_
      show squintref13_Pairs.l3 (k + 1) l out (p : Int) (i : Int) (q : Int) (j : Int) = squintref13_Pairs.l3 k l _ (p : Int) (i : Int) (q : Int) ((j + 1 : Nat) : Int)
      conv => lhs; rw [squintref13_Pairs.l3]
      rw [if_pos (by omega), if_pos (by omega), rd38 hq, rd38 hp, if_pos (by omega), if_pos (by omega), if_pos (by omega), if_pos (by omega), if_pos (by omega), if_pos (by omega), rd43 hi, rd43 hj, ← hae, ← hbe, ew]
      by_cases h1 : p = q
      · rw [if_pos (by omega)]
      · rw [if_neg (by omega)]
        by_cases h2 : a.f1 = true
        · rw [if_pos h2]
          by_cases h3 : b.f1 = true
          · rw [if_pos h3]
          · rw [if_neg h3]
            by_cases h4 : a.f0 = b.f0
            · rw [if_pos h4]
              by_cases h5 : a.f0 > 0
              · exact absurd ⟨h1, h2, by simpa using h3, h4, h5⟩ hc
              · rw [if_neg h5]
            · rw [if_neg h4]
        · rw [if_neg h2]
include hm ha in
theorem ref_l2 (p i : Nat) (hp : p < l.length) (hi : i < l[p].f1.length) (v : List S47) : ∀ (d q : Nat) (out : List S47), q + d = l.length →
    Ev (fun k => squintref13_Pairs.l1 k l (out ++ rowsQ p l[p].f0 i l[p].f1[i] q (l.drop q)) (p : Int) (wrap64 ((i : Int) + 1))) v →
    (out ++ rowsQ p l[p].f0 i l[p].f1[i] q (l.drop q)).length < 3518437208883 → Ev (fun k => squintref13_Pairs.l2 k l out (p : Int) (i : Int) (q : Int)) v
  | 0, q, out, hd, h, hb => by
    refine h.step fun k => ?_
    show squintref13_Pairs.l2 (k + 1) l out (p : Int) (i : Int) (q : Int) = _
    rw [squintref13_Pairs.l2, if_neg (by omega), List.drop_eq_nil_of_le (by omega), rowsQ, List.append_nil]
  | d + 1, q, out, hd, h, hb => by
    have hq : q < l.length := by omega
    have ew := wrap_succ q (by omega)
    rw [List.drop_eq_getElem_cons hq, rowsQ, ← List.append_assoc] at h hb
    have ih := ref_l2 p i hp hi v d (q + 1) _ (by omega) h hb
    have h3 := ref_l3 l ha p i q hp hi hq v l[q].f1.length 0 out (by omega) (by rw [List.drop_zero, ew]; exact ih) (by rw [List.drop_zero]; rw [List.length_append] at hb; omega)
    refine h3.step fun k => ?_
    show squintref13_Pairs.l2 (k + 1) l out (p : Int) (i : Int) (q : Int) = _
    rw [squintref13_Pairs.l2, if_pos (by omega)]
    rfl
include hm ha in
theorem ref_l1 (p : Nat) (hp : p < l.length) (v : List S47) : ∀ (d i : Nat) (out : List S47), i + d = l[p].f1.length →
    Ev (fun k => squintref13_Pairs.l0 k l (out ++ rowsI l p l[p].f0 i (l[p].f1.drop i)) (wrap64 ((p : Int) + 1))) v →
    (out ++ rowsI l p l[p].f0 i (l[p].f1.drop i)).length < 3518437208883 → Ev (fun k => squintref13_Pairs.l1 k l out (p : Int) (i : Int)) v
  | 0, i, out, hd, h, hb => by
    refine h.step fun k => ?_
    show squintref13_Pairs.l1 (k + 1) l out (p : Int) (i : Int) = _
    rw [squintref13_Pairs.l1, if_pos (by omega), if_pos (by omega), rd38 hp, if_neg (by omega), List.drop_eq_nil_of_le (by omega), rowsI, List.append_nil]
  | d + 1, i, out, hd, h, hb => by
    have hi : i < l[p].f1.length := by omega
    have hpl := ha l[p] (List.getElem_mem hp)
    have ew := wrap_succ i (by omega)
    rw [List.drop_eq_getElem_cons hi, rowsI, ← List.append_assoc] at h hb
    have ih := ref_l1 p hp v d (i + 1) _ (by omega) h hb
    have h3 := ref_l2 l hm ha p i hp hi v l.length 0 out (by omega) (by rw [List.drop_zero, ew]; exact ih) (by rw [List.drop_zero]; rw [List.length_append] at hb; omega)
    refine h3.step fun k => ?_
    show squintref13_Pairs.l1 (k + 1) l out (p : Int) (i : Int) = _
    rw [squintref13_Pairs.l1, if_pos (by omega), if_pos (by omega), rd38 hp, if_pos (by omega)]
    rfl
include hm ha in
theorem ref_l0 : ∀ (d p : Nat) (out : List S47), p + d = l.length → (out ++ rowsP l p (l.drop p)).length < 3518437208883 → Ev (fun k => squintref13_Pairs.l0 k l out (p : Int)) (out ++ rowsP l p (l.drop p))
  | 0, p, out, hd, hb => by
    refine Ev.done fun k => ?_
    show squintref13_Pairs.l0 (k + 1) l out (p : Int) = _
    rw [squintref13_Pairs.l0, if_neg (by omega), List.drop_eq_nil_of_le (by omega), rowsP, List.append_nil]
  | d + 1, p, out, hd, hb => by
    have hp : p < l.length := by omega
    have ew := wrap_succ p (by omega)
    rw [List.drop_eq_getElem_cons hp, rowsP, ← List.append_assoc] at hb ⊢
    have ih := ref_l0 d (p + 1) _ (by omega) hb
    have h3 := ref_l1 l hm ha p hp _ l[p].f1.length 0 out (by omega) (by rw [List.drop_zero, ew]; exact ih) (by rw [List.drop_zero]; rw [List.length_append] at hb; omega)
    refine h3.step fun k => ?_
    show squintref13_Pairs.l0 (k + 1) l out (p : Int) = _
    rw [squintref13_Pairs.l0, if_pos (by omega)]
    rfl
end
theorem rowsQ_eq (p : Nat) (pid i : Int) (a : S43) : ∀ (ys : List S38) (q : Nat), (∀ (t : Nat) (y : S38), ys[t]? = some y → (p = q + t ↔ y.f0 = pid)) → rowsQ p pid i a q ys = if a.f1 = true ∧ 0 < a.f0 then pairsB ys pid i a.f0 else []
  | [], q, h => by simp [rowsQ, pairsB]
  | y :: r, q, h => by
    have h0 := h 0 y rfl
    have ih := rowsQ_eq p pid i a r (q + 1) (fun t y' hy => by
      have := h (t + 1) y' hy
      rw [show q + 1 + t = q + (t + 1) by omega]
      exact this)
    rw [rowsQ, ih]
    by_cases hc : a.f1 = true ∧ 0 < a.f0
    · rw [if_pos hc, if_pos hc]
      unfold pairsB rowT
      rw [List.flatMap_cons]
      congr 1
      by_cases he : y.f0 = pid
      · rw [if_pos (.inl (by rw [Nat.add_zero] at h0; exact h0.2 he)), if_neg (by simp [he])]
      · rw [if_neg (by
          rintro (h | h | h)
          · exact he (h0.1 (by omega))
          · rw [hc.1] at h; cases h
          · exact h hc.2), if_pos (by simp [he])]
        rfl
    · rw [if_neg hc, if_neg hc, List.append_nil]
      unfold rowT
      rw [if_pos]
      by_cases h1 : a.f1 = true
      · exact .inr (.inr (fun h2 => hc ⟨h1, h2⟩))
      · exact .inr (.inl (by simpa using h1))
theorem rowsI_eq (l : List S38) (p : Nat) (pid : Int) (h : ∀ (t : Nat) (y : S38), l[t]? = some y → (p = t ↔ y.f0 = pid)) : ∀ (us : List S43) (i : Nat), rowsI l p pid i us = (selR (sendX 0) i us).flatMap fun y => pairsA l pid y.1 y.2.f0
  | [], i => rfl
  | a :: r, i => by
    rw [rowsI, rowsI_eq l p pid h r (i + 1), rowsQ_eq p pid i a l 0 (fun t y hy => by rw [Nat.zero_add]; exact h t y hy)]
    conv => rhs; unfold selR
    by_cases hs : sendX 0 a = true
    · rw [if_pos hs, if_pos (sendX_says.1 hs), List.flatMap_cons, pairsA_eq]
    · rw [if_neg hs, if_neg (fun hc => hs (sendX_says.2 hc)), List.nil_append]
theorem rowsP_eq (l : List S38) (hid : l.Pairwise (fun x y => x.f0 < y.f0)) : ∀ (d p : Nat), p + d = l.length → rowsP l p (l.drop p) = (l.drop p).flatMap (pairsP l)
  | 0, p, hd => by rw [List.drop_eq_nil_of_le (by omega)]; rfl
  | d + 1, p, hd => by
    have hp : p < l.length := by omega
    rw [List.drop_eq_getElem_cons hp, rowsP, List.flatMap_cons, rowsP_eq l hid d (p + 1) (by omega), rowsI_eq l p l[p].f0 (fun t y hy => ⟨fun e => by
      subst e
      rw [List.getElem?_eq_getElem hp] at hy
      injection hy with hy
      rw [hy], fun e => ids_at hid (List.getElem?_eq_getElem hp) hy e.symm⟩)]
    rfl
theorem ref_pairs (l : List S38) (hm : l.length + arms l ≤ 5000) : ∃ k, squintref13_Pairs.f k l = some (pairsOf l) := by
  have ha : ∀ x ∈ l, x.f1.length ≤ 4611686018427387904 := fun x hx => by have := arms_mem l x hx; omega
  refine Ev.get ?_
  have hlen := pairsOf_len l
  have hsq : arms l * arms l ≤ 5000 * 5000 := Nat.mul_le_mul (by omega) (by omega)
  have hR := ref_right l (by omega)
  refine (Ev.bind hR (F := fun k t => if t = true then (squintref13_Pairs.l0 k l [] 0) else (some [])) ?_).eq fun k => ?_
  · unfold pairsOf at hlen ⊢
    by_cases hr : rightOf l = true
    · rw [if_pos hr] at hlen ⊢
      have he := rowsP_eq l (right_says hr).2 l.length 0 (by omega)
      rw [List.drop_zero] at he
      have h := ref_l0 l (by omega) ha l.length 0 [] (by omega) (by rw [List.drop_zero, List.nil_append, he]; omega)
      rw [List.drop_zero, List.nil_append, he] at h
      exact h.eq fun k => by rw [if_pos hr]; rfl
    · rw [if_neg hr]
      exact ⟨0, fun k _ => if_neg hr⟩
  · rfl
end Go.Proofs.Ytokbonceeglciaa.Given
end
section
namespace Go.Proofs.Ytokbonceeglciaa.Print
open Go.Proofs.Ytokbonceeglciaa.Given
open Go.RowKit Go.Proofs.YtokbonceeglciaaW.PrintWords Go.Proofs.YtokbonceeglciaaW.PrintLast Go.Proofs.YtokbonceeglciaaW.PrintMore
attribute [local go_sem] max2_int min2_int max_two min_two max_three min_three max_four min_four
set_option linter.unusedVariables false
set_option linter.unusedSimpArgs false
def IsS28 (w0 W : World) (g : Nat) (f0 : List (List (S47))) (f1 : List (List (S47))) (f2 : Int) : Prop := ∃ A0 c0, ∃ A1 c1, W.heap[g]? = some (.cells #[.slice A0 f0.length c0, .slice A1 f1.length c1, .int .i64 f2] 28 (0, 0)) ∧ w0.heap.size ≤ g ∧ Kd.C (Kd.slice 47 k47) w0 A0 f0.length f0 ∧ Kd.C (Kd.slice 47 k47) w0 A1 f1.length f1
theorem IsS28.grown {w0 W : World} {g : Nat} {f0 : List (List (S47))} {f1 : List (List (S47))} {f2 : Int} {W1 : World} {row : Option Nat} (h : IsS28 w0 W g f0 f1 f2) (hw : W.grownBy W1 row) (hne : some g ≠ row) : IsS28 w0 W1 g f0 f1 f2 := by
  obtain ⟨A0, c0, A1, c1, hb, hg, hr0, hr1⟩ := h
  exact ⟨A0, c0, A1, c1, blk_grown hb hw hne, hg, hr0, hr1⟩
theorem IsS28.kept {w0 W : World} {g : Nat} {f0 : List (List (S47))} {f1 : List (List (S47))} {f2 : Int} {W1 : World} {S : Nat → Prop} (h : IsS28 w0 W g f0 f1 f2) (hk : Kept W W1 S) (hne : ¬ S g) : IsS28 w0 W1 g f0 f1 f2 := by
  obtain ⟨A0, c0, A1, c1, hb, hg, hr0, hr1⟩ := h
  exact ⟨A0, c0, A1, c1, blk_kept hb hk hne, hg, hr0, hr1⟩
theorem IsS28.below {w0 W : World} {g : Nat} {f0 : List (List (S47))} {f1 : List (List (S47))} {f2 : Int} {W1 : World} (h : IsS28 w0 W g f0 f1 f2) (hw : Below W.heap.size W W1) : IsS28 w0 W1 g f0 f1 f2 := h.grown (grown_of_below hw none) (by simp)
theorem IsS28.alloc {w0 W : World} {g : Nat} {f0 : List (List (S47))} {f1 : List (List (S47))} {f2 : Int} (h : IsS28 w0 W g f0 f1 f2) (o : Obj) : IsS28 w0 (W.alloc o) g f0 f1 f2 := h.below (below_alloc (Below.refl _ _) o)
theorem IsS28.drewN {w0 W : World} {g : Nat} {f0 : List (List (S47))} {f1 : List (List (S47))} {f2 : Int} (h : IsS28 w0 W g f0 f1 f2) (m : Nat) : IsS28 w0 (W.drewN m) g f0 f1 f2 := h
theorem IsS28.drew {w0 W : World} {g : Nat} {f0 : List (List (S47))} {f1 : List (List (S47))} {f2 : Int} (h : IsS28 w0 W g f0 f1 f2) : IsS28 w0 W.drew g f0 f1 f2 := h
theorem IsS28.at_ {w0 W : World} {g : Nat} {f0 : List (List (S47))} {f1 : List (List (S47))} {f2 : Int} {w' : World} {m : Nat} (hq : W.drewN m = w') (h : IsS28 w0 W g f0 f1 f2) : IsS28 w0 w' g f0 f1 f2 := by subst hq; exact IsS28.drewN h m
theorem IsS28.apart {w0 W : World} {g : Nat} {f0 : List (List (S47))} {f1 : List (List (S47))} {f2 : Int} {α : Type} {d : Kd α} {e : Nat} {base : Nat} {ok : Nat → Prop} {v : Value} {xs : List α} (h : IsS28 w0 W g f0 f1 f2) (ho : d.R e W base ok v xs) (ht : ∀ q, q ∈ e :: d.E → q ≠ 28) : d.R e W base (fun k => ok k ∧ k ≠ g) v xs := by
  obtain ⟨A0, c0, A1, c1, hb, hg, hr0, hr1⟩ := h
  exact Kd.R_types ho hb ht
theorem IsS28.own_ne {w0 W : World} {g : Nat} {f0 : List (List (S47))} {f1 : List (List (S47))} {f2 : Int} {α : Type} {d : Kd α} {e : Nat} {base : Nat} {ok : Nat → Prop} {v : Value} {xs : List α} (h : IsS28 w0 W g f0 f1 f2) (ho : d.R e W base ok v xs) (ht : e ≠ 28) : some g ≠ v.ownBlock := by
  obtain ⟨A0, c0, A1, c1, hb, hg, hr0, hr1⟩ := h
  exact Kd.R_ne ho hb ht
theorem IsS28.lt {w0 W : World} {g : Nat} {f0 : List (List (S47))} {f1 : List (List (S47))} {f2 : Int} (h : IsS28 w0 W g f0 f1 f2) : g < W.heap.size := by
  obtain ⟨A0, c0, A1, c1, hb, hg, hr0, hr1⟩ := h
  exact blk_lt hb
theorem IsS28.new (w0 W : World) (A0 : Option Addr) (c0 : Nat) (A1 : Option Addr) (c1 : Nat) (f0 : List (List (S47))) (f1 : List (List (S47))) (f2 : Int) (hB : Below w0.heap.size w0 W) (hr0 : Kd.C (Kd.slice 47 k47) w0 A0 f0.length f0) (hr1 : Kd.C (Kd.slice 47 k47) w0 A1 f1.length f1) : IsS28 w0 (W.alloc (.cells #[.slice A0 f0.length c0, .slice A1 f1.length c1, .int .i64 f2] 28)) W.heap.size f0 f1 f2 := ⟨A0, c0, A1, c1, by simpa using heap_alloc_new W _, hB.size, hr0, hr1⟩
end Go.Proofs.Ytokbonceeglciaa.Print
end
section
namespace Go.Proofs.Ytokbonceeglciaa.Given
open Go.RowKit Go.Shelf Go.Proofs.YtokbonceeglciaaW.PrintWords Go.Proofs.YtokbonceeglciaaW.PrintLast Go.Proofs.YtokbonceeglciaaW.PrintMore Go.Proofs.Ytokbonceeglciaa.Print
set_option linter.unusedVariables false
set_option linter.unusedSimpArgs false
theorem recv1_says {b : S43} : recvX 1 b = true ↔ b.f1 = false ∧ b.f0 = 1 := by
  simp [recvX]
  intro h
  omega
theorem send2_says {b : S43} : sendX 2 b = true ↔ b.f1 = true ∧ b.f0 = 2 := by
  simp [sendX]
  intro h
  omega
section
variable (l : List S38) (hm : l.length ≤ 4611686018427387904) (ha : ∀ x ∈ l, x.f1.length ≤ 4611686018427387904)
include ha in
theorem ref_i1 (q : Nat) (hq : q < l.length) (v : List S47) : ∀ (d j : Nat) (out : List S47), j + d = l[q].f1.length →
    Ev (fun k => squintref13_Ins.l0 k l (out ++ ((selR (recvX 1) j (l[q].f1.drop j)).map fun y => ⟨-1, 0, l[q].f0, y.1, 1⟩)) (wrap64 ((q : Int) + 1))) v →
    (out ++ ((selR (recvX 1) j (l[q].f1.drop j)).map fun y => (⟨-1, 0, l[q].f0, y.1, 1⟩ : S47))).length < 3518437208883 → Ev (fun k => squintref13_Ins.l1 k l out (q : Int) (j : Int)) v
  | 0, j, out, hd, h, hb => by
    refine h.step fun k => ?_
    show squintref13_Ins.l1 (k + 1) l out (q : Int) (j : Int) = _
    rw [squintref13_Ins.l1, if_pos (by omega), if_pos (by omega), rd38 hq, if_neg (by omega), List.drop_eq_nil_of_le (by omega), selR, List.map_nil, List.append_nil]
  | d + 1, j, out, hd, h, hb => by
    have hj : j < l[q].f1.length := by omega
    have hql := ha l[q] (List.getElem_mem hq)
    have ew := wrap_succ j (by omega)
    obtain ⟨b, hbe⟩ : ∃ b, b = l[q].f1[j] := ⟨_, rfl⟩
    rw [List.drop_eq_getElem_cons hj, ← hbe] at h hb
    have ih := ref_i1 q hq v d (j + 1)
    by_cases hc : recvX 1 b = true
    · rw [selR, if_pos hc, List.map_cons] at h hb
      have ih2 := ih (out ++ [⟨-1, 0, l[q].f0, j, 1⟩]) (by omega) (by rw [List.append_assoc]; exact h) (by rw [List.append_assoc]; exact hb)
      refine ih2.step fun k => ?_
      show squintref13_Ins.l1 (k + 1) l out (q : Int) (j : Int) = squintref13_Ins.l1 k l _ (q : Int) ((j + 1 : Nat) : Int)
      conv => lhs; rw [squintref13_Ins.l1]
      have hlen : out.length < 3518437208883 := by rw [List.length_append] at hb; omega
      obtain ⟨c1, c2⟩ := recv1_says.1 hc
      rw [if_pos (by omega), if_pos (by omega), rd38 hq, if_pos (by omega), if_pos (by omega), rd43 hj, ← hbe, if_neg (by rw [c1]; simp), if_pos c2, if_pos hlen, ew]
    · rw [selR, if_neg hc] at h hb
      have ih2 := ih out (by omega) h hb
      refine ih2.step fun k => ?_
      show squintref13_Ins.l1 (k + 1) l out (q : Int) (j : Int) = squintref13_Ins.l1 k l _ (q : Int) ((j + 1 : Nat) : Int)
      conv => lhs; rw [squintref13_Ins.l1]
      rw [if_pos (by omega), if_pos (by omega), rd38 hq, if_pos (by omega), if_pos (by omega), rd43 hj, ← hbe, ew]
      by_cases h3 : b.f1 = true
      · rw [if_pos h3]
      · rw [if_neg h3, if_neg (fun h4 => hc (recv1_says.2 ⟨by simpa using h3, h4⟩))]
include hm ha in
theorem ref_i0 (hr : rightOf l = true) : ∀ (d q : Nat) (out : List S47), q + d = l.length → (out ++ (l.drop q).flatMap insW).length < 3518437208883 → Ev (fun k => squintref13_Ins.l0 k l out (q : Int)) (out ++ (l.drop q).flatMap insW)
  | 0, q, out, hd, hb => by
    refine Ev.step (g := fun k => squintref13_Ins.j1 k l out (q : Int) false) (Ev.done fun k => ?_) fun k => ?_
    · show squintref13_Ins.j1 (k + 1) l out (q : Int) false = _
      rw [squintref13_Ins.j1, if_neg (by simp), List.drop_eq_nil_of_le (by omega), List.flatMap_nil, List.append_nil]
    · show squintref13_Ins.l0 (k + 1) l out (q : Int) = _
      rw [squintref13_Ins.l0, if_neg (by omega)]
  | d + 1, q, out, hd, hb => by
    have hq : q < l.length := by omega
    have ew := wrap_succ q (by omega)
    rw [List.drop_eq_getElem_cons hq, List.flatMap_cons, ← List.append_assoc] at hb ⊢
    have ih := ref_i0 hr d (q + 1) _ (by omega) hb
    have h1 := ref_i1 l ha q hq _ l[q].f1.length 0 out (by omega) (by rw [List.drop_zero, ew]; exact ih) (by rw [List.drop_zero]; rw [List.length_append] at hb; exact Nat.lt_of_le_of_lt (Nat.le_add_right _ _) hb)
    have h2 : Ev (fun k => squintref13_Ins.j1 k l out (q : Int) true) (out ++ insW l[q] ++ (l.drop (q + 1)).flatMap insW) := h1.step fun k => by
      show squintref13_Ins.j1 (k + 1) l out (q : Int) true = _
      rw [squintref13_Ins.j1, if_pos rfl]
      rfl
    have h3 := Ev.bind (ref_right l hm) (F := fun k t => squintref13_Ins.j1 k l out (q : Int) t) (by rw [hr]; exact h2)
    refine h3.step fun k => ?_
    show squintref13_Ins.l0 (k + 1) l out (q : Int) = _
    rw [squintref13_Ins.l0, if_pos (by omega)]
include ha in
theorem ref_o1 (q : Nat) (hq : q < l.length) (v : List S47) : ∀ (d j : Nat) (out : List S47), j + d = l[q].f1.length →
    Ev (fun k => squintref13_Outs.l0 k l (out ++ ((selR (sendX 2) j (l[q].f1.drop j)).map fun y => ⟨l[q].f0, y.1, -1, 0, 2⟩)) (wrap64 ((q : Int) + 1))) v →
    (out ++ ((selR (sendX 2) j (l[q].f1.drop j)).map fun y => (⟨l[q].f0, y.1, -1, 0, 2⟩ : S47))).length < 3518437208883 → Ev (fun k => squintref13_Outs.l1 k l out (q : Int) (j : Int)) v
  | 0, j, out, hd, h, hb => by
    refine h.step fun k => ?_
    show squintref13_Outs.l1 (k + 1) l out (q : Int) (j : Int) = _
    rw [squintref13_Outs.l1, if_pos (by omega), if_pos (by omega), rd38 hq, if_neg (by omega), List.drop_eq_nil_of_le (by omega), selR, List.map_nil, List.append_nil]
  | d + 1, j, out, hd, h, hb => by
    have hj : j < l[q].f1.length := by omega
    have hql := ha l[q] (List.getElem_mem hq)
    have ew := wrap_succ j (by omega)
    obtain ⟨b, hbe⟩ : ∃ b, b = l[q].f1[j] := ⟨_, rfl⟩
    rw [List.drop_eq_getElem_cons hj, ← hbe] at h hb
    have ih := ref_o1 q hq v d (j + 1)
    by_cases hc : sendX 2 b = true
    · rw [selR, if_pos hc, List.map_cons] at h hb
      have ih2 := ih (out ++ [⟨l[q].f0, j, -1, 0, 2⟩]) (by omega) (by rw [List.append_assoc]; exact h) (by rw [List.append_assoc]; exact hb)
      refine ih2.step fun k => ?_
      show squintref13_Outs.l1 (k + 1) l out (q : Int) (j : Int) = squintref13_Outs.l1 k l _ (q : Int) ((j + 1 : Nat) : Int)
      conv => lhs; rw [squintref13_Outs.l1]
      have hlen : out.length < 3518437208883 := by rw [List.length_append] at hb; omega
      obtain ⟨c1, c2⟩ := send2_says.1 hc
      rw [if_pos (by omega), if_pos (by omega), rd38 hq, if_pos (by omega), if_pos (by omega), rd43 hj, ← hbe, if_pos c1, if_pos c2, if_pos hlen, ew]
    · rw [selR, if_neg hc] at h hb
      have ih2 := ih out (by omega) h hb
      refine ih2.step fun k => ?_
      show squintref13_Outs.l1 (k + 1) l out (q : Int) (j : Int) = squintref13_Outs.l1 k l _ (q : Int) ((j + 1 : Nat) : Int)
      conv => lhs; rw [squintref13_Outs.l1]
      rw [if_pos (by omega), if_pos (by omega), rd38 hq, if_pos (by omega), if_pos (by omega), rd43 hj, ← hbe, ew]
      by_cases h3 : b.f1 = true
      · rw [if_pos h3, if_neg (fun h4 => hc (send2_says.2 ⟨h3, h4⟩))]
      · rw [if_neg h3]
include hm ha in
theorem ref_o0 (hr : rightOf l = true) : ∀ (d q : Nat) (out : List S47), q + d = l.length → (out ++ (l.drop q).flatMap outsW).length < 3518437208883 → Ev (fun k => squintref13_Outs.l0 k l out (q : Int)) (out ++ (l.drop q).flatMap outsW)
  | 0, q, out, hd, hb => by
    refine Ev.step (g := fun k => squintref13_Outs.j1 k l out (q : Int) false) (Ev.done fun k => ?_) fun k => ?_
    · show squintref13_Outs.j1 (k + 1) l out (q : Int) false = _
      rw [squintref13_Outs.j1, if_neg (by simp), List.drop_eq_nil_of_le (by omega), List.flatMap_nil, List.append_nil]
    · show squintref13_Outs.l0 (k + 1) l out (q : Int) = _
      rw [squintref13_Outs.l0, if_neg (by omega)]
  | d + 1, q, out, hd, hb => by
    have hq : q < l.length := by omega
    have ew := wrap_succ q (by omega)
    rw [List.drop_eq_getElem_cons hq, List.flatMap_cons, ← List.append_assoc] at hb ⊢
    have ih := ref_o0 hr d (q + 1) _ (by omega) hb
    have h1 := ref_o1 l ha q hq _ l[q].f1.length 0 out (by omega) (by rw [List.drop_zero, ew]; exact ih) (by rw [List.drop_zero]; rw [List.length_append] at hb; exact Nat.lt_of_le_of_lt (Nat.le_add_right _ _) hb)
    have h2 : Ev (fun k => squintref13_Outs.j1 k l out (q : Int) true) (out ++ outsW l[q] ++ (l.drop (q + 1)).flatMap outsW) := h1.step fun k => by
      show squintref13_Outs.j1 (k + 1) l out (q : Int) true = _
      rw [squintref13_Outs.j1, if_pos rfl]
      rfl
    have h3 := Ev.bind (ref_right l hm) (F := fun k t => squintref13_Outs.j1 k l out (q : Int) t) (by rw [hr]; exact h2)
    refine h3.step fun k => ?_
    show squintref13_Outs.l0 (k + 1) l out (q : Int) = _
    rw [squintref13_Outs.l0, if_pos (by omega)]
end
theorem outs_len2 : ∀ l : List S38, (l.flatMap outsW).length ≤ arms l
  | [] => by simp [arms]
  | x :: l => by
    have ih := outs_len2 l
    have h1 : (outsW x).length ≤ x.f1.length := by
      simp only [outsW, List.length_map]
      exact selR_len _ _ _
    rw [List.flatMap_cons, List.length_append]
    have h2 : arms (x :: l) = x.f1.length + arms l := by simp [arms]
    omega
theorem ref_ins (l : List S38) (hm : l.length + arms l ≤ 5000) : ∃ k, squintref13_Ins.f k l = some (insOf l) := by
  have ha : ∀ x ∈ l, x.f1.length ≤ 4611686018427387904 := fun x hx => by have := arms_mem l x hx; omega
  refine Ev.get ?_
  unfold insOf
  by_cases hr : rightOf l = true
  · rw [if_pos hr]
    have := ref_i0 l (by omega) ha hr l.length 0 [] (by omega) (by rw [List.drop_zero, List.nil_append]; have := ins_len l; omega)
    rw [List.drop_zero, List.nil_append] at this
    exact this
  · rw [if_neg hr]
    have hf : rightOf l = false := by simpa using hr
    have h2 : Ev (fun k => squintref13_Ins.j1 k l [] 0 false) [] := Ev.done fun k => by
      show squintref13_Ins.j1 (k + 1) l [] 0 false = _
      rw [squintref13_Ins.j1, if_neg (by simp)]
    by_cases hl : 0 < l.length
    · refine (Ev.bind (ref_right l (by omega)) (F := fun k t => squintref13_Ins.j1 k l [] 0 t) (by rw [hf]; exact h2)).step fun k => ?_
      show squintref13_Ins.l0 (k + 1) l [] 0 = _
      rw [squintref13_Ins.l0, if_pos (by omega)]
    · refine h2.step fun k => ?_
      show squintref13_Ins.l0 (k + 1) l [] 0 = _
      rw [squintref13_Ins.l0, if_neg (by omega)]
theorem ref_outs (l : List S38) (hm : l.length + arms l ≤ 5000) : ∃ k, squintref13_Outs.f k l = some (outsOf l) := by
  have ha : ∀ x ∈ l, x.f1.length ≤ 4611686018427387904 := fun x hx => by have := arms_mem l x hx; omega
  refine Ev.get ?_
  unfold outsOf
  by_cases hr : rightOf l = true
  · rw [if_pos hr]
    have := ref_o0 l (by omega) ha hr l.length 0 [] (by omega) (by rw [List.drop_zero, List.nil_append]; have := outs_len2 l; omega)
    rw [List.drop_zero, List.nil_append] at this
    exact this
  · rw [if_neg hr]
    have hf : rightOf l = false := by simpa using hr
    have h2 : Ev (fun k => squintref13_Outs.j1 k l [] 0 false) [] := Ev.done fun k => by
      show squintref13_Outs.j1 (k + 1) l [] 0 false = _
      rw [squintref13_Outs.j1, if_neg (by simp)]
    by_cases hl : 0 < l.length
    · refine (Ev.bind (ref_right l (by omega)) (F := fun k t => squintref13_Outs.j1 k l [] 0 t) (by rw [hf]; exact h2)).step fun k => ?_
      show squintref13_Outs.l0 (k + 1) l [] 0 = _
      rw [squintref13_Outs.l0, if_pos (by omega)]
    · refine h2.step fun k => ?_
      show squintref13_Outs.l0 (k + 1) l [] 0 = _
      rw [squintref13_Outs.l0, if_neg (by omega)]
theorem sameP_loop (l : List S47) (hl : l.length ≤ 4611686018427387904) : ∀ (d n : Nat), n + d = l.length → Ev (fun k => squintlaw13_same.l0 k l l (n : Int)) true
  | 0, n, hd => Ev.done fun k => by
    unfold squintlaw13_same.l0
    rw [if_neg (by omega)]
  | d + 1, n, hd => by
    refine (sameP_loop l hl d (n + 1) (by omega)).step fun k => ?_
    show squintlaw13_same.l0 (k + 1) l l (n : Int) = _
    conv => lhs; unfold squintlaw13_same.l0
    rw [if_pos (by omega), if_pos (by omega), if_pos (by omega), if_neg (by simp), wrap_succ n (by omega)]
theorem sameP_self (l : List S47) (hl : l.length ≤ 4611686018427387904) : ∃ k, squintlaw13_same.f k l l = some true := by
  obtain ⟨k, hk⟩ := (sameP_loop l hl l.length 0 (by omega)).get
  refine ⟨k, ?_⟩
  unfold squintlaw13_same.f
  rw [if_pos rfl]
  exact hk
theorem beyond_loop (l : List S38) (hm : l.length ≤ 4611686018427387904) (ha : ∀ x ∈ l, x.f1.length ≤ 4611686018427387904) : ∀ (d i n : Nat), i + d = l.length → n ≤ 4611686018427387904 → ∃ b, Ev (fun k => squintlaw13_beyond.l0 k l (n : Int) (i : Int)) b ∧ (b = false → n + arms (l.drop i) ≤ 4000)
  | 0, i, n, hd, hn => by
    refine ⟨decide (n > 4000), ?_, fun h => ?_⟩
    · refine Ev.step (g := fun k => squintlaw13_beyond.j1 k l (n : Int) (i : Int) false) (Ev.done fun k => ?_) fun k => ?_
      · show squintlaw13_beyond.j1 (k + 1) l (n : Int) (i : Int) false = _
        rw [squintlaw13_beyond.j1, if_neg (by simp)]
        congr 1
        exact decide_eq_decide.2 (by omega)
      · show squintlaw13_beyond.l0 (k + 1) l (n : Int) (i : Int) = _
        rw [squintlaw13_beyond.l0, if_neg (by omega)]
    · rw [List.drop_eq_nil_of_le (by omega)]
      have := of_decide_eq_false h
      simp only [arms, List.map_nil, List.sum_nil]
      omega
  | d + 1, i, n, hd, hn => by
    have hi : i < l.length := by omega
    have hil := ha l[i] (List.getElem_mem hi)
    have e0 : ∀ k, squintlaw13_beyond.l0 (k + 1) l (n : Int) (i : Int) = squintlaw13_beyond.j1 k l (n : Int) (i : Int) (decide ((n : Int) ≤ 4000)) := fun k => by
      rw [squintlaw13_beyond.l0, if_pos (by omega)]
    by_cases hle : n ≤ 4000
    · by_cases hbig : l[i].f1.length > 4000
      · refine ⟨true, Ev.step (g := fun k => squintlaw13_beyond.j1 k l (n : Int) (i : Int) (decide ((n : Int) ≤ 4000))) (Ev.done fun k => ?_) e0, fun h => by cases h⟩
        show squintlaw13_beyond.j1 (k + 1) l (n : Int) (i : Int) _ = _
        rw [squintlaw13_beyond.j1, if_pos (decide_eq_true (by omega)), if_pos (by omega), if_pos (by omega), rd38 hi, if_pos (by omega)]
      · obtain ⟨b, hb, hb2⟩ := beyond_loop l hm ha d (i + 1) (n + l[i].f1.length) (by omega) (by omega)
        refine ⟨b, Ev.step (g := fun k => squintlaw13_beyond.j1 k l (n : Int) (i : Int) (decide ((n : Int) ≤ 4000))) (hb.step fun k => ?_) e0, fun h => ?_⟩
        · show squintlaw13_beyond.j1 (k + 1) l (n : Int) (i : Int) _ = _
          have e1 : wrap64 ((n : Int) + (l[i].f1.length : Int)) = ((n + l[i].f1.length : Nat) : Int) := by simp only [wrap64]; omega
          rw [squintlaw13_beyond.j1, if_pos (decide_eq_true (by omega)), if_pos (by omega), if_pos (by omega), rd38 hi, if_neg (by omega), e1, wrap_succ i (by omega)]
        · have := hb2 h
          rw [List.drop_eq_getElem_cons hi]
          simp only [arms, List.map_cons, List.sum_cons] at this ⊢
          omega
    · refine ⟨true, Ev.step (g := fun k => squintlaw13_beyond.j1 k l (n : Int) (i : Int) (decide ((n : Int) ≤ 4000))) (Ev.done fun k => ?_) e0, fun h => by cases h⟩
      show squintlaw13_beyond.j1 (k + 1) l (n : Int) (i : Int) _ = _
      have hd2 : decide ((n : Int) ≤ 4000) = false := decide_eq_false (by omega)
      rw [squintlaw13_beyond.j1, hd2, if_neg (by simp)]
      congr 1
      exact decide_eq_true (by omega)
theorem beyond_says (l : List S38) (hm : l.length ≤ 4611686018427387904) (ha : ∀ x ∈ l, x.f1.length ≤ 4611686018427387904) : ∃ b k, squintlaw13_beyond.f k l = some b ∧ (b = false → l.length + arms l ≤ 4000) := by
  obtain ⟨b, hb, h2⟩ := beyond_loop l hm ha l.length 0 l.length (by omega) hm
  obtain ⟨k, hk⟩ := hb.get
  rw [List.drop_zero] at h2
  exact ⟨b, k, hk, h2⟩
end Go.Proofs.Ytokbonceeglciaa.Given
end
section
namespace Go.Proofs.Ytokbonceeglciaa.Print
open Go.Proofs.Ytokbonceeglciaa.Given
open Go.RowKit Go.Proofs.YtokbonceeglciaaW.PrintWords Go.Proofs.YtokbonceeglciaaW.PrintLast Go.Proofs.YtokbonceeglciaaW.PrintMore
attribute [local go_sem] max2_int min2_int max_two min_two max_three min_three max_four min_four
set_option linter.unusedVariables false
set_option linter.unusedSimpArgs false
mutual
def squintlaw13_still.l0 : Nat → List (S38) → List (List (S43)) → List (S38) → Int → Option (Bool)
  | 0, _, _, _, _ => none
  | k + 1, x0, x1, x2, x7 => if x7 < (x2.length : Int) then (if 0 ≤ x7 then (if x7 < (x0.length : Int) then (if ((rd_T38 x0 x7).f0) = ((rd_T38 x2 x7).f0) then (if (((rd_T38 x0 x7).f1).length : Int) = (((rd_T38 x2 x7).f1).length : Int) then (if x7 < (x1.length : Int) then (if 0 ≤ (((rd_T38 x2 x7).f1).length : Int) then (if (((rd_T38 x2 x7).f1).length : Int) < ((rd_L4 x1 x7).length : Int) then (squintlaw13_still.j1 k x0 x1 x2 x7 (((rd_T38 x2 x7).f1).length : Int) (((rd_T43 (rd_L4 x1 x7) (((rd_T38 x2 x7).f1).length : Int)).f0) != (-99))) else (none)) else (none)) else (none)) else (squintlaw13_still.j1 k x0 x1 x2 x7 (((rd_T38 x2 x7).f1).length : Int) true)) else (squintlaw13_still.j1 k x0 x1 x2 x7 (((rd_T38 x2 x7).f1).length : Int) true)) else (none)) else (none)) else (if 0 ≤ (x2.length : Int) then (if (x2.length : Int) < (x0.length : Int) then (some (((rd_T38 x0 (x2.length : Int)).f0) == (-99))) else (none)) else (none))
def squintlaw13_still.j1 : Nat → List (S38) → List (List (S43)) → List (S38) → Int → Int → Bool → Option (Bool)
  | 0, _, _, _, _, _, _ => none
  | k + 1, x0, x1, x2, x7, x8, x53 => if x53 = true then (some false) else (squintlaw13_still.l1 k x0 x1 x2 x7 x8 0)
def squintlaw13_still.l1 : Nat → List (S38) → List (List (S43)) → List (S38) → Int → Int → Int → Option (Bool)
  | 0, _, _, _, _, _, _ => none
  | k + 1, x0, x1, x2, x7, x8, x9 => if x9 < x8 then (if 0 ≤ x7 then (if x7 < (x1.length : Int) then (if 0 ≤ x9 then (if x9 < ((rd_L4 x1 x7).length : Int) then (if x7 < (x2.length : Int) then (if x9 < (((rd_T38 x2 x7).f1).length : Int) then (if ((rd_T43 (rd_L4 x1 x7) x9).f0) = ((rd_T43 ((rd_T38 x2 x7).f1) x9).f0) then (if (((rd_T43 (rd_L4 x1 x7) x9).f1) != ((rd_T43 ((rd_T38 x2 x7).f1) x9).f1)) = true then (some false) else (if x7 < (x0.length : Int) then (if x9 < (((rd_T38 x0 x7).f1).length : Int) then (if ((rd_T43 ((rd_T38 x0 x7).f1) x9).f0) = ((rd_T43 ((rd_T38 x2 x7).f1) x9).f0) then (squintlaw13_still.l1 k x0 x1 x2 x7 x8 (wrap64 (x9 + 1))) else (some false)) else (none)) else (none))) else (some false)) else (none)) else (none)) else (none)) else (none)) else (none)) else (none)) else (squintlaw13_still.l0 k x0 x1 x2 (wrap64 (x7 + 1)))
end
def squintlaw13_still.f (k : Nat) (l0 : List (S38)) (l1 : List (List (S43))) (l2 : List (S38)) : Option (Bool) := squintlaw13_still.l0 k l0 l1 l2 0
set_option maxHeartbeats 8000000 in
set_option maxRecDepth 100000 in
theorem squintlaw13_still.calls (k : Nat) (A0 : Option Addr) (c0 : Nat) (l0 : List (S38)) (A1 : Option Addr) (c1 : Nat) (l1 : List (List (S43))) (A2 : Option Addr) (c2 : Nat) (l2 : List (S38)) (r : Bool) (w : World) (hr0 : Kd.C k38 w A0 l0.length l0) (hc0 : l0.length ≤ c0) (hr1 : Kd.C (Kd.slice 43 k43) w A1 l1.length l1) (hc1 : l1.length ≤ c1) (hr2 : Kd.C k38 w A2 l2.length l2) (hc2 : l2.length ≤ c2) (h : squintlaw13_still.f k l0 l1 l2 = some r) :
    Calls Try.prog 16 #[.slice A0 l0.length c0, .slice A1 l1.length c1, .slice A2 l2.length c2] w fun e w' => e = .returned (.bool r) ∧ Drawn0 w w' := by
  have HR0 := Aside0.mk hr0
  have HC0 := Aside0.mk hc0
  clear hr0 hc0
  have HR1 := Aside0.mk hr1
  have HC1 := Aside0.mk hc1
  clear hr1 hc1
  have HR2 := Aside0.mk hr2
  have HC2 := Aside0.mk hc2
  clear hr2 hc2
  have H : (squintlaw13_still.l0 k l0 l1 l2 0) = some r := h
  clear h
  have H' := Aside0.mk H
  clear H
  go_enter Try.func16, Try.ntmps16
  go_wp2
  repeat (go_quiet (fail); try go_wp2)
  go_loopg [7] k (fun kq v7 w' => ∃ (x7_1 : Int), v7 = .int .i64 x7_1 ∧ Aside0 (squintlaw13_still.l0 kq l0 l1 l2 x7_1 = some r) ∧ Aside0 (kq ≤ k) ∧ Drawn0 w w')
  case atStart => exact ⟨(0), (by first | rfl | (simp; done) | (simp [*]; done)), H', ⟨Nat.le_refl _⟩, by repeat (first | exact Drawn0.refl _ | apply Drawn0.step)⟩
  case round =>
    clear H'
    try clear c1
    try clear c2
    try clear p2
    obtain ⟨x7_1, rfl, HA, HK1, ⟨m1, rfl⟩⟩ := hrel
    cases gk with
    | zero => exact absurd HA.out (by simp [squintlaw13_still.l0])
    | succ k1 =>
      have H := HA.out
      clear HA
      simp only [squintlaw13_still.l0] at H
      by_cases c4 : x7_1 < (l2.length : Int)
      · rw [if_pos c4] at H
        have c4b0 : decide (x7_1 < (l2.length : Int)) = true := decide_eq_true c4
        clear c4
        by_cases c5 : 0 ≤ x7_1
        · rw [if_pos c5] at H
          have c5b0 : decide (0 ≤ x7_1) = true := decide_eq_true c5
          clear c5
          have HC6 := Aside0.mk H
          clear H
          have p196 : 0 ≤ (x7_1 : Int) := of_decide_eq_true (by first | (with_reducible assumption) | assumption)
          have q196 : x7_1 < (l2.length : Int) := of_decide_eq_true (by first | (with_reducible assumption) | assumption)
          obtain ⟨ad196, A196_1, c196_1, e196, hx196_0, hx196_1, hl196_1, hi196_1⟩ := at_T38 HR2.out x7_1 p196 q196
          cases e196
          have HR196_1 := Aside0.mk hi196_1
          have HC196_1 := Aside0.mk hl196_1
          clear hi196_1 hl196_1
          replace p196 := eq_true p196
          replace q196 := eq_true q196
          go_upto_region 5 with (fail)
          repeat (go_quiet (fail); go_upto_region 5 with (fail))
          go_cut [53] (fun v53 wc => ∃ (kq : Nat) (x53_5 : Bool), v53 = .bool x53_5 ∧ Aside0 (squintlaw13_still.j1 kq l0 l1 l2 x7_1 (((rd_T38 l2 x7_1).f1).length : Int) x53_5 = some r) ∧ Aside0 (kq ≤ k1) ∧ Drawn0 w wc)
          case first =>
            have H := HC6.out
            clear HC6
            by_cases c7 : x7_1 < (l0.length : Int)
            · rw [if_pos c7] at H
              have c7b0 : decide (x7_1 < (l0.length : Int)) = true := decide_eq_true c7
              clear c7
              (first | rw [c7b0] | (simp only [i64_w, i32_w]; rw [c7b0]) | skip)
              by_cases c8 : ((rd_T38 l0 x7_1).f0) = ((rd_T38 l2 x7_1).f0)
              · rw [if_pos c8] at H
                have c8b0 : (((rd_T38 l0 x7_1).f0) == ((rd_T38 l2 x7_1).f0)) = true := beq_iff_eq.mpr c8
                have c8b1 : (((rd_T38 l0 x7_1).f0) != ((rd_T38 l2 x7_1).f0)) = false := bne_eq_false_iff_eq.mpr c8
                clear c8
                by_cases c9 : (((rd_T38 l0 x7_1).f1).length : Int) = (((rd_T38 l2 x7_1).f1).length : Int)
                · rw [if_pos c9] at H
                  have c9b0 : ((((rd_T38 l0 x7_1).f1).length : Int) == (((rd_T38 l2 x7_1).f1).length : Int)) = true := beq_iff_eq.mpr c9
                  have c9b1 : ((((rd_T38 l0 x7_1).f1).length : Int) != (((rd_T38 l2 x7_1).f1).length : Int)) = false := bne_eq_false_iff_eq.mpr c9
                  have c9b2 : (((rd_T38 l0 x7_1).f1).length == ((rd_T38 l2 x7_1).f1).length) = true := by first | simpa using c9 | (simp at c9 ⊢; omega)
                  clear c9
                  by_cases c10 : x7_1 < (l1.length : Int)
                  · rw [if_pos c10] at H
                    have c10b0 : decide (x7_1 < (l1.length : Int)) = true := decide_eq_true c10
                    clear c10
                    by_cases c11 : 0 ≤ (((rd_T38 l2 x7_1).f1).length : Int)
                    · rw [if_pos c11] at H
                      have c11b0 : decide (0 ≤ (((rd_T38 l2 x7_1).f1).length : Int)) = true := decide_eq_true c11
                      have c11b1 : decide (0 ≤ ((rd_T38 l2 x7_1).f1).length) = true := decide_eq_true (by omega)
                      clear c11
                      by_cases c12 : (((rd_T38 l2 x7_1).f1).length : Int) < ((rd_L4 l1 x7_1).length : Int)
                      · rw [if_pos c12] at H
                        have c12b0 : decide ((((rd_T38 l2 x7_1).f1).length : Int) < ((rd_L4 l1 x7_1).length : Int)) = true := decide_eq_true c12
                        have c12b1 : decide (((rd_T38 l2 x7_1).f1).length < (rd_L4 l1 x7_1).length) = true := decide_eq_true (Int.ofNat_lt.mp c12)
                        clear c12
                        have H' := Aside0.mk H
                        clear H
                        have p197 : 0 ≤ (x7_1 : Int) := of_decide_eq_true (by first | (with_reducible assumption) | assumption)
                        have q197 : x7_1 < (l0.length : Int) := of_decide_eq_true (by first | (with_reducible assumption) | assumption)
                        obtain ⟨ad197, A197_1, c197_1, e197, hx197_0, hx197_1, hl197_1, hi197_1⟩ := at_T38 HR0.out x7_1 p197 q197
                        cases e197
                        have HR197_1 := Aside0.mk hi197_1
                        have HC197_1 := Aside0.mk hl197_1
                        clear hi197_1 hl197_1
                        replace p197 := eq_true p197
                        replace q197 := eq_true q197
                        have p198 : 0 ≤ (x7_1 : Int) := of_decide_eq_true (by first | (with_reducible assumption) | assumption)
                        have q198 : x7_1 < (l2.length : Int) := of_decide_eq_true (by first | (with_reducible assumption) | assumption)
                        obtain ⟨ad198, A198_1, c198_1, e198, hx198_0, hx198_1, hl198_1, hi198_1⟩ := at_T38 HR2.out x7_1 p198 q198
                        obtain rfl : ad196 = ad198 := (by injection e198)
                        have HR198_1 := Aside0.mk hi198_1
                        have HC198_1 := Aside0.mk hl198_1
                        clear hi198_1 hl198_1
                        replace p198 := eq_true p198
                        replace q198 := eq_true q198
                        have p199 : 0 ≤ (x7_1 : Int) := of_decide_eq_true (by first | (with_reducible assumption) | assumption)
                        have q199 : x7_1 < (l0.length : Int) := of_decide_eq_true (by first | (with_reducible assumption) | assumption)
                        obtain ⟨ad199, A199_1, c199_1, e199, hx199_0, hx199_1, hl199_1, hi199_1⟩ := at_T38 HR0.out x7_1 p199 q199
                        obtain rfl : ad197 = ad199 := (by injection e199)
                        have HR199_1 := Aside0.mk hi199_1
                        have HC199_1 := Aside0.mk hl199_1
                        clear hi199_1 hl199_1
                        replace p199 := eq_true p199
                        replace q199 := eq_true q199
                        have ea_ := Option.some.inj (hx197_1.symm.trans hx199_1)
                        injection ea_ with ea_ en_ ec_
                        subst ea_
                        subst ec_
                        clear en_
                        have p200 : 0 ≤ (x7_1 : Int) := of_decide_eq_true (by first | (with_reducible assumption) | assumption)
                        have q200 : x7_1 < (l1.length : Int) := of_decide_eq_true (by first | (with_reducible assumption) | assumption)
                        obtain ⟨ad200, A200_0, c200_0, e200, hx200_0, hl200_0, hi200_0⟩ := at_L4 HR1.out x7_1 p200 q200
                        cases e200
                        have HR200_0 := Aside0.mk hi200_0
                        have HC200_0 := Aside0.mk hl200_0
                        clear hi200_0 hl200_0
                        replace p200 := eq_true p200
                        replace q200 := eq_true q200
                        have p201 : 0 ≤ ((((rd_T38 l2 x7_1).f1).length : Int) : Int) := of_decide_eq_true (by first | (with_reducible assumption) | assumption)
                        have q201 : (((rd_T38 l2 x7_1).f1).length : Int) < ((rd_L4 l1 x7_1).length : Int) := of_decide_eq_true (by first | (with_reducible assumption) | assumption)
                        obtain ⟨ad201, A201_4, c201_4, e201, hx201_0, hx201_1, hx201_2, hx201_3, hx201_4, hl201_4, hi201_4⟩ := at_T43 HR200_0.out (((rd_T38 l2 x7_1).f1).length : Int) p201 q201
                        cases e201
                        have HR201_4 := Aside0.mk hi201_4
                        have HC201_4 := Aside0.mk hl201_4
                        clear hi201_4 hl201_4
                        (try simp only [Go.IntWalk.toNatUp] at hx201_0)
                        (try simp only [Go.IntWalk.toNatUp] at hx201_1)
                        (try simp only [Go.IntWalk.toNatUp] at hx201_2)
                        (try simp only [Go.IntWalk.toNatUp] at hx201_3)
                        (try simp only [Go.IntWalk.toNatUp] at hx201_4)
                        replace p201 := eq_true p201
                        replace q201 := eq_true q201
                        go_wp2
                        repeat (go_quiet (fail); try go_wp2)
                        go_meet
                        case rel => exact ⟨_, ((((rd_T43 (rd_L4 l1 x7_1) (((rd_T38 l2 x7_1).f1).length : Int)).f0) != (-99))), (by first | rfl | (simp; done) | (simp [*]; done)), H', ⟨by have := HK1.out; first | omega | exact Nat.le_refl _⟩, by repeat (first | exact Drawn0.refl _ | apply Drawn0.step)⟩
                      · rw [if_neg c12] at H
                        exact absurd H (by simp)
                    · rw [if_neg c11] at H
                      exact absurd H (by simp)
                  · rw [if_neg c10] at H
                    exact absurd H (by simp)
                · rw [if_neg c9] at H
                  have c9b0 : ((((rd_T38 l0 x7_1).f1).length : Int) == (((rd_T38 l2 x7_1).f1).length : Int)) = false := beq_eq_false_iff_ne.mpr c9
                  have c9b1 : ((((rd_T38 l0 x7_1).f1).length : Int) != (((rd_T38 l2 x7_1).f1).length : Int)) = true := bne_iff_ne.mpr c9
                  have c9b2 : (((rd_T38 l0 x7_1).f1).length == ((rd_T38 l2 x7_1).f1).length) = false := by first | simpa using c9 | (simp at c9 ⊢; omega)
                  have H' := Aside0.mk H
                  clear H
                  have p197 : 0 ≤ (x7_1 : Int) := of_decide_eq_true (by first | (with_reducible assumption) | assumption)
                  have q197 : x7_1 < (l0.length : Int) := of_decide_eq_true (by first | (with_reducible assumption) | assumption)
                  obtain ⟨ad197, A197_1, c197_1, e197, hx197_0, hx197_1, hl197_1, hi197_1⟩ := at_T38 HR0.out x7_1 p197 q197
                  cases e197
                  have HR197_1 := Aside0.mk hi197_1
                  have HC197_1 := Aside0.mk hl197_1
                  clear hi197_1 hl197_1
                  replace p197 := eq_true p197
                  replace q197 := eq_true q197
                  have p198 : 0 ≤ (x7_1 : Int) := of_decide_eq_true (by first | (with_reducible assumption) | assumption)
                  have q198 : x7_1 < (l2.length : Int) := of_decide_eq_true (by first | (with_reducible assumption) | assumption)
                  obtain ⟨ad198, A198_1, c198_1, e198, hx198_0, hx198_1, hl198_1, hi198_1⟩ := at_T38 HR2.out x7_1 p198 q198
                  obtain rfl : ad196 = ad198 := (by injection e198)
                  have HR198_1 := Aside0.mk hi198_1
                  have HC198_1 := Aside0.mk hl198_1
                  clear hi198_1 hl198_1
                  replace p198 := eq_true p198
                  replace q198 := eq_true q198
                  have p199 : 0 ≤ (x7_1 : Int) := of_decide_eq_true (by first | (with_reducible assumption) | assumption)
                  have q199 : x7_1 < (l0.length : Int) := of_decide_eq_true (by first | (with_reducible assumption) | assumption)
                  obtain ⟨ad199, A199_1, c199_1, e199, hx199_0, hx199_1, hl199_1, hi199_1⟩ := at_T38 HR0.out x7_1 p199 q199
                  obtain rfl : ad197 = ad199 := (by injection e199)
                  have HR199_1 := Aside0.mk hi199_1
                  have HC199_1 := Aside0.mk hl199_1
                  clear hi199_1 hl199_1
                  replace p199 := eq_true p199
                  replace q199 := eq_true q199
                  have ea_ := Option.some.inj (hx197_1.symm.trans hx199_1)
                  injection ea_ with ea_ en_ ec_
                  subst ea_
                  subst ec_
                  clear en_
                  go_wp2
                  repeat (go_quiet (fail); try go_wp2)
                  go_meet
                  case rel => exact ⟨_, (true), (by first | rfl | (simp; done) | (simp [*]; done)), H', ⟨by have := HK1.out; first | omega | exact Nat.le_refl _⟩, by repeat (first | exact Drawn0.refl _ | apply Drawn0.step)⟩
              · rw [if_neg c8] at H
                have c8b0 : (((rd_T38 l0 x7_1).f0) == ((rd_T38 l2 x7_1).f0)) = false := beq_eq_false_iff_ne.mpr c8
                have c8b1 : (((rd_T38 l0 x7_1).f0) != ((rd_T38 l2 x7_1).f0)) = true := bne_iff_ne.mpr c8
                have H' := Aside0.mk H
                clear H
                have p197 : 0 ≤ (x7_1 : Int) := of_decide_eq_true (by first | (with_reducible assumption) | assumption)
                have q197 : x7_1 < (l0.length : Int) := of_decide_eq_true (by first | (with_reducible assumption) | assumption)
                obtain ⟨ad197, A197_1, c197_1, e197, hx197_0, hx197_1, hl197_1, hi197_1⟩ := at_T38 HR0.out x7_1 p197 q197
                cases e197
                have HR197_1 := Aside0.mk hi197_1
                have HC197_1 := Aside0.mk hl197_1
                clear hi197_1 hl197_1
                replace p197 := eq_true p197
                replace q197 := eq_true q197
                have p198 : 0 ≤ (x7_1 : Int) := of_decide_eq_true (by first | (with_reducible assumption) | assumption)
                have q198 : x7_1 < (l2.length : Int) := of_decide_eq_true (by first | (with_reducible assumption) | assumption)
                obtain ⟨ad198, A198_1, c198_1, e198, hx198_0, hx198_1, hl198_1, hi198_1⟩ := at_T38 HR2.out x7_1 p198 q198
                obtain rfl : ad196 = ad198 := (by injection e198)
                have HR198_1 := Aside0.mk hi198_1
                have HC198_1 := Aside0.mk hl198_1
                clear hi198_1 hl198_1
                replace p198 := eq_true p198
                replace q198 := eq_true q198
                go_wp2
                repeat (go_quiet (fail); try go_wp2)
                go_meet
                case rel => exact ⟨_, (true), (by first | rfl | (simp; done) | (simp [*]; done)), H', ⟨by have := HK1.out; first | omega | exact Nat.le_refl _⟩, by repeat (first | exact Drawn0.refl _ | apply Drawn0.step)⟩
            · rw [if_neg c7] at H
              exact absurd H (by simp)
          case rest =>
            clear HC6
            try clear c1
            try clear p1
            try clear q1
            try clear hx1
            try clear c2
            try clear p2
            try clear q2
            try clear hx2
            try clear c4
            try clear c4b0
            try clear c5
            try clear c5b0
            try clear c7
            try clear c7b0
            try clear c8
            try clear c8b0
            try clear c8b1
            try clear c9
            try clear c9b0
            try clear c9b1
            try clear c9b2
            try clear c10
            try clear c10b0
            try clear c11
            try clear c11b0
            try clear c11b1
            try clear c12
            try clear c12b0
            try clear c12b1
            try clear hx196_0
            try clear hx196_1
            try clear hx197_0
            try clear hx197_1
            try clear hx198_0
            try clear hx198_1
            try clear hx199_0
            try clear hx199_1
            try clear hx200_0
            try clear hx201_0
            try clear hx201_1
            try clear hx201_2
            try clear hx201_3
            try clear hx201_4
            try clear p196
            try clear p197
            try clear p198
            try clear p199
            try clear p2
            try clear p200
            try clear p201
            try clear q196
            try clear q197
            try clear q198
            try clear q199
            try clear q200
            try clear q201
            obtain ⟨kq, x53_5, rfl, HA, HJ5, ⟨mc5, rfl⟩⟩ := hcut
            cases kq with
            | zero => exact absurd HA.out (by simp [squintlaw13_still.j1])
            | succ kj5 =>
              have H := HA.out
              clear HA
              simp only [squintlaw13_still.j1] at H
              by_cases c13 : x53_5 = true
              · subst c13
                have H1 : (some false) = some r := by rw [if_pos rfl] at H; exact H
                clear H
                have H := H1
                clear H1
                obtain rfl := Option.some.inj H
                go_wp2
                repeat (go_quiet (fail); try go_wp2)
                go_ret
                exact ⟨by first | rfl | (simp; done) | (simp [*]; done), by repeat (first | exact Drawn0.refl _ | apply Drawn0.step)⟩
              · replace c13 := Bool.eq_false_iff.mpr c13
                subst c13
                have H1 : (squintlaw13_still.l1 kj5 l0 l1 l2 x7_1 (((rd_T38 l2 x7_1).f1).length : Int) 0) = some r := by rw [if_neg (show ¬ (false = true) by decide)] at H; exact H
                clear H
                have H := H1
                clear H1
                have H' := Aside0.mk H
                clear H
                go_wp2
                repeat (go_quiet (fail); try go_wp2)
                go_loopg [9] kj5 (fun kq v9 w' => ∃ (x9_3 : Int), v9 = .int .i64 x9_3 ∧ Aside0 (squintlaw13_still.l1 kq l0 l1 l2 x7_1 (((rd_T38 l2 x7_1).f1).length : Int) x9_3 = some r) ∧ Aside0 (kq ≤ kj5) ∧ Drawn0 w w')
                case atStart => exact ⟨(0), (by first | rfl | (simp; done) | (simp [*]; done)), H', ⟨Nat.le_refl _⟩, by repeat (first | exact Drawn0.refl _ | apply Drawn0.step)⟩
                case round =>
                  clear H'
                  try clear c1
                  try clear p1
                  try clear q1
                  try clear hx1
                  try clear c2
                  try clear p2
                  try clear q2
                  try clear hx2
                  try clear c4
                  try clear c4b0
                  try clear c5
                  try clear c5b0
                  try clear c7
                  try clear c7b0
                  try clear c8
                  try clear c8b0
                  try clear c8b1
                  try clear c9
                  try clear c9b0
                  try clear c9b1
                  try clear c9b2
                  try clear c10
                  try clear c10b0
                  try clear c11
                  try clear c11b0
                  try clear c11b1
                  try clear c12
                  try clear c12b0
                  try clear c12b1
                  try clear c13
                  try clear hx196_0
                  try clear hx196_1
                  try clear hx197_0
                  try clear hx197_1
                  try clear hx198_0
                  try clear hx198_1
                  try clear hx199_0
                  try clear hx199_1
                  try clear hx200_0
                  try clear hx201_0
                  try clear hx201_1
                  try clear hx201_2
                  try clear hx201_3
                  try clear hx201_4
                  try clear p1
                  try clear p196
                  try clear p197
                  try clear p198
                  try clear p199
                  try clear p2
                  try clear p200
                  try clear p201
                  try clear q1
                  try clear q196
                  try clear q197
                  try clear q198
                  try clear q199
                  try clear q2
                  try clear q200
                  try clear q201
                  obtain ⟨x9_3, rfl, HA, HK3, ⟨m3, rfl⟩⟩ := hrel
                  cases gk with
                  | zero => exact absurd HA.out (by simp [squintlaw13_still.l1])
                  | succ k3 =>
                    have H := HA.out
                    clear HA
                    simp only [squintlaw13_still.l1] at H
                    by_cases c14 : x9_3 < (((rd_T38 l2 x7_1).f1).length : Int)
                    · rw [if_pos c14] at H
                      have c14b0 : decide (x9_3 < (((rd_T38 l2 x7_1).f1).length : Int)) = true := decide_eq_true c14
                      clear c14
                      by_cases c15 : 0 ≤ x7_1
                      · rw [if_pos c15] at H
                        have c15b0 : decide (0 ≤ x7_1) = true := decide_eq_true c15
                        clear c15
                        by_cases c16 : x7_1 < (l1.length : Int)
                        · rw [if_pos c16] at H
                          have c16b0 : decide (x7_1 < (l1.length : Int)) = true := decide_eq_true c16
                          clear c16
                          by_cases c17 : 0 ≤ x9_3
                          · rw [if_pos c17] at H
                            have c17b0 : decide (0 ≤ x9_3) = true := decide_eq_true c17
                            clear c17
                            by_cases c18 : x9_3 < ((rd_L4 l1 x7_1).length : Int)
                            · rw [if_pos c18] at H
                              have c18b0 : decide (x9_3 < ((rd_L4 l1 x7_1).length : Int)) = true := decide_eq_true c18
                              clear c18
                              by_cases c19 : x7_1 < (l2.length : Int)
                              · rw [if_pos c19] at H
                                have c19b0 : decide (x7_1 < (l2.length : Int)) = true := decide_eq_true c19
                                clear c19
                                by_cases c20 : x9_3 < (((rd_T38 l2 x7_1).f1).length : Int)
                                · rw [if_pos c20] at H
                                  have c20b0 : decide (x9_3 < (((rd_T38 l2 x7_1).f1).length : Int)) = true := decide_eq_true c20
                                  clear c20
                                  by_cases c21 : ((rd_T43 (rd_L4 l1 x7_1) x9_3).f0) = ((rd_T43 ((rd_T38 l2 x7_1).f1) x9_3).f0)
                                  · rw [if_pos c21] at H
                                    have c21b0 : (((rd_T43 (rd_L4 l1 x7_1) x9_3).f0) == ((rd_T43 ((rd_T38 l2 x7_1).f1) x9_3).f0)) = true := beq_iff_eq.mpr c21
                                    have c21b1 : (((rd_T43 (rd_L4 l1 x7_1) x9_3).f0) != ((rd_T43 ((rd_T38 l2 x7_1).f1) x9_3).f0)) = false := bne_eq_false_iff_eq.mpr c21
                                    clear c21
                                    by_cases c22 : (((rd_T43 (rd_L4 l1 x7_1) x9_3).f1) != ((rd_T43 ((rd_T38 l2 x7_1).f1) x9_3).f1)) = true
                                    · rw [if_pos c22] at H
                                      have c22b0 : (((rd_T43 (rd_L4 l1 x7_1) x9_3).f1) != ((rd_T43 ((rd_T38 l2 x7_1).f1) x9_3).f1)) = true := c22
                                      (try (have c22b1 : decide (((rd_T43 (rd_L4 l1 x7_1) x9_3).f1) = ((rd_T43 ((rd_T38 l2 x7_1).f1) x9_3).f1)) = false := by simpa using c22))
                                      (try (have c22b2 : (((rd_T43 (rd_L4 l1 x7_1) x9_3).f1) == ((rd_T43 ((rd_T38 l2 x7_1).f1) x9_3).f1)) = false := by simpa using c22))
                                      (try (have c22b3 : ¬ (((rd_T43 (rd_L4 l1 x7_1) x9_3).f1) = ((rd_T43 ((rd_T38 l2 x7_1).f1) x9_3).f1)) := by simpa using c22))
                                      clear c22
                                      obtain rfl := Option.some.inj H
                                      have p202 : 0 ≤ (x7_1 : Int) := of_decide_eq_true (by first | (with_reducible assumption) | assumption)
                                      have q202 : x7_1 < (l1.length : Int) := of_decide_eq_true (by first | (with_reducible assumption) | assumption)
                                      obtain ⟨ad202, A202_0, c202_0, e202, hx202_0, hl202_0, hi202_0⟩ := at_L4 HR1.out x7_1 p202 q202
                                      cases e202
                                      have HR202_0 := Aside0.mk hi202_0
                                      have HC202_0 := Aside0.mk hl202_0
                                      clear hi202_0 hl202_0
                                      replace p202 := eq_true p202
                                      replace q202 := eq_true q202
                                      have p203 : 0 ≤ (x9_3 : Int) := of_decide_eq_true (by first | (with_reducible assumption) | assumption)
                                      have q203 : x9_3 < ((rd_L4 l1 x7_1).length : Int) := of_decide_eq_true (by first | (with_reducible assumption) | assumption)
                                      obtain ⟨ad203, A203_4, c203_4, e203, hx203_0, hx203_1, hx203_2, hx203_3, hx203_4, hl203_4, hi203_4⟩ := at_T43 HR202_0.out x9_3 p203 q203
                                      cases e203
                                      have HR203_4 := Aside0.mk hi203_4
                                      have HC203_4 := Aside0.mk hl203_4
                                      clear hi203_4 hl203_4
                                      replace p203 := eq_true p203
                                      replace q203 := eq_true q203
                                      have p204 : 0 ≤ (x7_1 : Int) := of_decide_eq_true (by first | (with_reducible assumption) | assumption)
                                      have q204 : x7_1 < (l2.length : Int) := of_decide_eq_true (by first | (with_reducible assumption) | assumption)
                                      obtain ⟨ad204, A204_1, c204_1, e204, hx204_0, hx204_1, hl204_1, hi204_1⟩ := at_T38 HR2.out x7_1 p204 q204
                                      obtain rfl : ad196 = ad204 := (by injection e204)
                                      have HR204_1 := Aside0.mk hi204_1
                                      have HC204_1 := Aside0.mk hl204_1
                                      clear hi204_1 hl204_1
                                      replace p204 := eq_true p204
                                      replace q204 := eq_true q204
                                      have p205 : 0 ≤ (x9_3 : Int) := of_decide_eq_true (by first | (with_reducible assumption) | assumption)
                                      have q205 : x9_3 < (((rd_T38 l2 x7_1).f1).length : Int) := of_decide_eq_true (by first | (with_reducible assumption) | assumption)
                                      obtain ⟨ad205, A205_4, c205_4, e205, hx205_0, hx205_1, hx205_2, hx205_3, hx205_4, hl205_4, hi205_4⟩ := at_T43 HR204_1.out x9_3 p205 q205
                                      cases e205
                                      have HR205_4 := Aside0.mk hi205_4
                                      have HC205_4 := Aside0.mk hl205_4
                                      clear hi205_4 hl205_4
                                      replace p205 := eq_true p205
                                      replace q205 := eq_true q205
                                      have p206 : 0 ≤ (x7_1 : Int) := of_decide_eq_true (by first | (with_reducible assumption) | assumption)
                                      have q206 : x7_1 < (l1.length : Int) := of_decide_eq_true (by first | (with_reducible assumption) | assumption)
                                      obtain ⟨ad206, A206_0, c206_0, e206, hx206_0, hl206_0, hi206_0⟩ := at_L4 HR1.out x7_1 p206 q206
                                      obtain rfl : ad202 = ad206 := (by injection e206)
                                      have HR206_0 := Aside0.mk hi206_0
                                      have HC206_0 := Aside0.mk hl206_0
                                      clear hi206_0 hl206_0
                                      replace p206 := eq_true p206
                                      replace q206 := eq_true q206
                                      have ea_ := Option.some.inj (hx202_0.symm.trans hx206_0)
                                      injection ea_ with ea_ en_ ec_
                                      subst ea_
                                      subst ec_
                                      clear en_
                                      have p207 : 0 ≤ (x9_3 : Int) := of_decide_eq_true (by first | (with_reducible assumption) | assumption)
                                      have q207 : x9_3 < ((rd_L4 l1 x7_1).length : Int) := of_decide_eq_true (by first | (with_reducible assumption) | assumption)
                                      obtain ⟨ad207, A207_4, c207_4, e207, hx207_0, hx207_1, hx207_2, hx207_3, hx207_4, hl207_4, hi207_4⟩ := at_T43 HR206_0.out x9_3 p207 q207
                                      cases e207
                                      have HR207_4 := Aside0.mk hi207_4
                                      have HC207_4 := Aside0.mk hl207_4
                                      clear hi207_4 hl207_4
                                      replace p207 := eq_true p207
                                      replace q207 := eq_true q207
                                      have p208 : 0 ≤ (x7_1 : Int) := of_decide_eq_true (by first | (with_reducible assumption) | assumption)
                                      have q208 : x7_1 < (l2.length : Int) := of_decide_eq_true (by first | (with_reducible assumption) | assumption)
                                      obtain ⟨ad208, A208_1, c208_1, e208, hx208_0, hx208_1, hl208_1, hi208_1⟩ := at_T38 HR2.out x7_1 p208 q208
                                      obtain rfl : ad196 = ad208 := (by injection e208)
                                      have HR208_1 := Aside0.mk hi208_1
                                      have HC208_1 := Aside0.mk hl208_1
                                      clear hi208_1 hl208_1
                                      replace p208 := eq_true p208
                                      replace q208 := eq_true q208
                                      have ea_ := Option.some.inj (hx204_1.symm.trans hx208_1)
                                      injection ea_ with ea_ en_ ec_
                                      subst ea_
                                      subst ec_
                                      clear en_
                                      have p209 : 0 ≤ (x9_3 : Int) := of_decide_eq_true (by first | (with_reducible assumption) | assumption)
                                      have q209 : x9_3 < (((rd_T38 l2 x7_1).f1).length : Int) := of_decide_eq_true (by first | (with_reducible assumption) | assumption)
                                      obtain ⟨ad209, A209_4, c209_4, e209, hx209_0, hx209_1, hx209_2, hx209_3, hx209_4, hl209_4, hi209_4⟩ := at_T43 HR208_1.out x9_3 p209 q209
                                      cases e209
                                      have HR209_4 := Aside0.mk hi209_4
                                      have HC209_4 := Aside0.mk hl209_4
                                      clear hi209_4 hl209_4
                                      replace p209 := eq_true p209
                                      replace q209 := eq_true q209
                                      go_wp2
                                      repeat (go_quiet (fail); try go_wp2)
                                      go_ret
                                      exact ⟨by first | rfl | (simp; done) | (simp [*]; done), by repeat (first | exact Drawn0.refl _ | apply Drawn0.step)⟩
                                    · rw [if_neg c22] at H
                                      have c22b0 : (((rd_T43 (rd_L4 l1 x7_1) x9_3).f1) != ((rd_T43 ((rd_T38 l2 x7_1).f1) x9_3).f1)) = false := by simpa using c22
                                      (try (have c22b1 : decide (((rd_T43 (rd_L4 l1 x7_1) x9_3).f1) = ((rd_T43 ((rd_T38 l2 x7_1).f1) x9_3).f1)) = true := by simpa using c22))
                                      (try (have c22b2 : (((rd_T43 (rd_L4 l1 x7_1) x9_3).f1) == ((rd_T43 ((rd_T38 l2 x7_1).f1) x9_3).f1)) = true := by simpa using c22))
                                      clear c22
                                      by_cases c23 : x7_1 < (l0.length : Int)
                                      · rw [if_pos c23] at H
                                        have c23b0 : decide (x7_1 < (l0.length : Int)) = true := decide_eq_true c23
                                        clear c23
                                        by_cases c24 : x9_3 < (((rd_T38 l0 x7_1).f1).length : Int)
                                        · rw [if_pos c24] at H
                                          have c24b0 : decide (x9_3 < (((rd_T38 l0 x7_1).f1).length : Int)) = true := decide_eq_true c24
                                          clear c24
                                          by_cases c25 : ((rd_T43 ((rd_T38 l0 x7_1).f1) x9_3).f0) = ((rd_T43 ((rd_T38 l2 x7_1).f1) x9_3).f0)
                                          · rw [if_pos c25] at H
                                            have c25b0 : (((rd_T43 ((rd_T38 l0 x7_1).f1) x9_3).f0) == ((rd_T43 ((rd_T38 l2 x7_1).f1) x9_3).f0)) = true := beq_iff_eq.mpr c25
                                            have c25b1 : (((rd_T43 ((rd_T38 l0 x7_1).f1) x9_3).f0) != ((rd_T43 ((rd_T38 l2 x7_1).f1) x9_3).f0)) = false := bne_eq_false_iff_eq.mpr c25
                                            clear c25
                                            have H' := Aside0.mk H
                                            clear H
                                            have p202 : 0 ≤ (x7_1 : Int) := of_decide_eq_true (by first | (with_reducible assumption) | assumption)
                                            have q202 : x7_1 < (l1.length : Int) := of_decide_eq_true (by first | (with_reducible assumption) | assumption)
                                            obtain ⟨ad202, A202_0, c202_0, e202, hx202_0, hl202_0, hi202_0⟩ := at_L4 HR1.out x7_1 p202 q202
                                            cases e202
                                            have HR202_0 := Aside0.mk hi202_0
                                            have HC202_0 := Aside0.mk hl202_0
                                            clear hi202_0 hl202_0
                                            replace p202 := eq_true p202
                                            replace q202 := eq_true q202
                                            have p203 : 0 ≤ (x9_3 : Int) := of_decide_eq_true (by first | (with_reducible assumption) | assumption)
                                            have q203 : x9_3 < ((rd_L4 l1 x7_1).length : Int) := of_decide_eq_true (by first | (with_reducible assumption) | assumption)
                                            obtain ⟨ad203, A203_4, c203_4, e203, hx203_0, hx203_1, hx203_2, hx203_3, hx203_4, hl203_4, hi203_4⟩ := at_T43 HR202_0.out x9_3 p203 q203
                                            cases e203
                                            have HR203_4 := Aside0.mk hi203_4
                                            have HC203_4 := Aside0.mk hl203_4
                                            clear hi203_4 hl203_4
                                            replace p203 := eq_true p203
                                            replace q203 := eq_true q203
                                            have p204 : 0 ≤ (x7_1 : Int) := of_decide_eq_true (by first | (with_reducible assumption) | assumption)
                                            have q204 : x7_1 < (l2.length : Int) := of_decide_eq_true (by first | (with_reducible assumption) | assumption)
                                            obtain ⟨ad204, A204_1, c204_1, e204, hx204_0, hx204_1, hl204_1, hi204_1⟩ := at_T38 HR2.out x7_1 p204 q204
                                            obtain rfl : ad196 = ad204 := (by injection e204)
                                            have HR204_1 := Aside0.mk hi204_1
                                            have HC204_1 := Aside0.mk hl204_1
                                            clear hi204_1 hl204_1
                                            replace p204 := eq_true p204
                                            replace q204 := eq_true q204
                                            have p205 : 0 ≤ (x9_3 : Int) := of_decide_eq_true (by first | (with_reducible assumption) | assumption)
                                            have q205 : x9_3 < (((rd_T38 l2 x7_1).f1).length : Int) := of_decide_eq_true (by first | (with_reducible assumption) | assumption)
                                            obtain ⟨ad205, A205_4, c205_4, e205, hx205_0, hx205_1, hx205_2, hx205_3, hx205_4, hl205_4, hi205_4⟩ := at_T43 HR204_1.out x9_3 p205 q205
                                            cases e205
                                            have HR205_4 := Aside0.mk hi205_4
                                            have HC205_4 := Aside0.mk hl205_4
                                            clear hi205_4 hl205_4
                                            replace p205 := eq_true p205
                                            replace q205 := eq_true q205
                                            have p206 : 0 ≤ (x7_1 : Int) := of_decide_eq_true (by first | (with_reducible assumption) | assumption)
                                            have q206 : x7_1 < (l1.length : Int) := of_decide_eq_true (by first | (with_reducible assumption) | assumption)
                                            obtain ⟨ad206, A206_0, c206_0, e206, hx206_0, hl206_0, hi206_0⟩ := at_L4 HR1.out x7_1 p206 q206
                                            obtain rfl : ad202 = ad206 := (by injection e206)
                                            have HR206_0 := Aside0.mk hi206_0
                                            have HC206_0 := Aside0.mk hl206_0
                                            clear hi206_0 hl206_0
                                            replace p206 := eq_true p206
                                            replace q206 := eq_true q206
                                            have ea_ := Option.some.inj (hx202_0.symm.trans hx206_0)
                                            injection ea_ with ea_ en_ ec_
                                            subst ea_
                                            subst ec_
                                            clear en_
                                            have p207 : 0 ≤ (x9_3 : Int) := of_decide_eq_true (by first | (with_reducible assumption) | assumption)
                                            have q207 : x9_3 < ((rd_L4 l1 x7_1).length : Int) := of_decide_eq_true (by first | (with_reducible assumption) | assumption)
                                            obtain ⟨ad207, A207_4, c207_4, e207, hx207_0, hx207_1, hx207_2, hx207_3, hx207_4, hl207_4, hi207_4⟩ := at_T43 HR206_0.out x9_3 p207 q207
                                            cases e207
                                            have HR207_4 := Aside0.mk hi207_4
                                            have HC207_4 := Aside0.mk hl207_4
                                            clear hi207_4 hl207_4
                                            replace p207 := eq_true p207
                                            replace q207 := eq_true q207
                                            have p208 : 0 ≤ (x7_1 : Int) := of_decide_eq_true (by first | (with_reducible assumption) | assumption)
                                            have q208 : x7_1 < (l2.length : Int) := of_decide_eq_true (by first | (with_reducible assumption) | assumption)
                                            obtain ⟨ad208, A208_1, c208_1, e208, hx208_0, hx208_1, hl208_1, hi208_1⟩ := at_T38 HR2.out x7_1 p208 q208
                                            obtain rfl : ad196 = ad208 := (by injection e208)
                                            have HR208_1 := Aside0.mk hi208_1
                                            have HC208_1 := Aside0.mk hl208_1
                                            clear hi208_1 hl208_1
                                            replace p208 := eq_true p208
                                            replace q208 := eq_true q208
                                            have ea_ := Option.some.inj (hx204_1.symm.trans hx208_1)
                                            injection ea_ with ea_ en_ ec_
                                            subst ea_
                                            subst ec_
                                            clear en_
                                            have p209 : 0 ≤ (x9_3 : Int) := of_decide_eq_true (by first | (with_reducible assumption) | assumption)
                                            have q209 : x9_3 < (((rd_T38 l2 x7_1).f1).length : Int) := of_decide_eq_true (by first | (with_reducible assumption) | assumption)
                                            obtain ⟨ad209, A209_4, c209_4, e209, hx209_0, hx209_1, hx209_2, hx209_3, hx209_4, hl209_4, hi209_4⟩ := at_T43 HR208_1.out x9_3 p209 q209
                                            cases e209
                                            have HR209_4 := Aside0.mk hi209_4
                                            have HC209_4 := Aside0.mk hl209_4
                                            clear hi209_4 hl209_4
                                            replace p209 := eq_true p209
                                            replace q209 := eq_true q209
                                            have p210 : 0 ≤ (x7_1 : Int) := of_decide_eq_true (by first | (with_reducible assumption) | assumption)
                                            have q210 : x7_1 < (l0.length : Int) := of_decide_eq_true (by first | (with_reducible assumption) | assumption)
                                            obtain ⟨ad210, A210_1, c210_1, e210, hx210_0, hx210_1, hl210_1, hi210_1⟩ := at_T38 HR0.out x7_1 p210 q210
                                            cases e210
                                            have HR210_1 := Aside0.mk hi210_1
                                            have HC210_1 := Aside0.mk hl210_1
                                            clear hi210_1 hl210_1
                                            replace p210 := eq_true p210
                                            replace q210 := eq_true q210
                                            have p211 : 0 ≤ (x9_3 : Int) := of_decide_eq_true (by first | (with_reducible assumption) | assumption)
                                            have q211 : x9_3 < (((rd_T38 l0 x7_1).f1).length : Int) := of_decide_eq_true (by first | (with_reducible assumption) | assumption)
                                            obtain ⟨ad211, A211_4, c211_4, e211, hx211_0, hx211_1, hx211_2, hx211_3, hx211_4, hl211_4, hi211_4⟩ := at_T43 HR210_1.out x9_3 p211 q211
                                            cases e211
                                            have HR211_4 := Aside0.mk hi211_4
                                            have HC211_4 := Aside0.mk hl211_4
                                            clear hi211_4 hl211_4
                                            replace p211 := eq_true p211
                                            replace q211 := eq_true q211
                                            have p212 : 0 ≤ (x7_1 : Int) := of_decide_eq_true (by first | (with_reducible assumption) | assumption)
                                            have q212 : x7_1 < (l2.length : Int) := of_decide_eq_true (by first | (with_reducible assumption) | assumption)
                                            obtain ⟨ad212, A212_1, c212_1, e212, hx212_0, hx212_1, hl212_1, hi212_1⟩ := at_T38 HR2.out x7_1 p212 q212
                                            obtain rfl : ad196 = ad212 := (by injection e212)
                                            have HR212_1 := Aside0.mk hi212_1
                                            have HC212_1 := Aside0.mk hl212_1
                                            clear hi212_1 hl212_1
                                            replace p212 := eq_true p212
                                            replace q212 := eq_true q212
                                            have ea_ := Option.some.inj (hx204_1.symm.trans hx212_1)
                                            injection ea_ with ea_ en_ ec_
                                            subst ea_
                                            subst ec_
                                            clear en_
                                            have p213 : 0 ≤ (x9_3 : Int) := of_decide_eq_true (by first | (with_reducible assumption) | assumption)
                                            have q213 : x9_3 < (((rd_T38 l2 x7_1).f1).length : Int) := of_decide_eq_true (by first | (with_reducible assumption) | assumption)
                                            obtain ⟨ad213, A213_4, c213_4, e213, hx213_0, hx213_1, hx213_2, hx213_3, hx213_4, hl213_4, hi213_4⟩ := at_T43 HR212_1.out x9_3 p213 q213
                                            cases e213
                                            have HR213_4 := Aside0.mk hi213_4
                                            have HC213_4 := Aside0.mk hl213_4
                                            clear hi213_4 hl213_4
                                            replace p213 := eq_true p213
                                            replace q213 := eq_true q213
                                            go_wp2
                                            repeat (go_quiet (fail); try go_wp2)
                                            go_roundg k3
                                            case measure => have := HK1.out; have := HJ5.out; have := HK3.out; omega
                                            case rel => exact ⟨(wrap64 (x9_3 + 1)), (by first | rfl | (simp; done) | (simp [*]; done)), H', ⟨by have := HK1.out; have := HJ5.out; have := HK3.out; omega⟩, by repeat (first | exact Drawn0.refl _ | apply Drawn0.step)⟩
                                          · rw [if_neg c25] at H
                                            have c25b0 : (((rd_T43 ((rd_T38 l0 x7_1).f1) x9_3).f0) == ((rd_T43 ((rd_T38 l2 x7_1).f1) x9_3).f0)) = false := beq_eq_false_iff_ne.mpr c25
                                            have c25b1 : (((rd_T43 ((rd_T38 l0 x7_1).f1) x9_3).f0) != ((rd_T43 ((rd_T38 l2 x7_1).f1) x9_3).f0)) = true := bne_iff_ne.mpr c25
                                            obtain rfl := Option.some.inj H
                                            have p202 : 0 ≤ (x7_1 : Int) := of_decide_eq_true (by first | (with_reducible assumption) | assumption)
                                            have q202 : x7_1 < (l1.length : Int) := of_decide_eq_true (by first | (with_reducible assumption) | assumption)
                                            obtain ⟨ad202, A202_0, c202_0, e202, hx202_0, hl202_0, hi202_0⟩ := at_L4 HR1.out x7_1 p202 q202
                                            cases e202
                                            have HR202_0 := Aside0.mk hi202_0
                                            have HC202_0 := Aside0.mk hl202_0
                                            clear hi202_0 hl202_0
                                            replace p202 := eq_true p202
                                            replace q202 := eq_true q202
                                            have p203 : 0 ≤ (x9_3 : Int) := of_decide_eq_true (by first | (with_reducible assumption) | assumption)
                                            have q203 : x9_3 < ((rd_L4 l1 x7_1).length : Int) := of_decide_eq_true (by first | (with_reducible assumption) | assumption)
                                            obtain ⟨ad203, A203_4, c203_4, e203, hx203_0, hx203_1, hx203_2, hx203_3, hx203_4, hl203_4, hi203_4⟩ := at_T43 HR202_0.out x9_3 p203 q203
                                            cases e203
                                            have HR203_4 := Aside0.mk hi203_4
                                            have HC203_4 := Aside0.mk hl203_4
                                            clear hi203_4 hl203_4
                                            replace p203 := eq_true p203
                                            replace q203 := eq_true q203
                                            have p204 : 0 ≤ (x7_1 : Int) := of_decide_eq_true (by first | (with_reducible assumption) | assumption)
                                            have q204 : x7_1 < (l2.length : Int) := of_decide_eq_true (by first | (with_reducible assumption) | assumption)
                                            obtain ⟨ad204, A204_1, c204_1, e204, hx204_0, hx204_1, hl204_1, hi204_1⟩ := at_T38 HR2.out x7_1 p204 q204
                                            obtain rfl : ad196 = ad204 := (by injection e204)
                                            have HR204_1 := Aside0.mk hi204_1
                                            have HC204_1 := Aside0.mk hl204_1
                                            clear hi204_1 hl204_1
                                            replace p204 := eq_true p204
                                            replace q204 := eq_true q204
                                            have p205 : 0 ≤ (x9_3 : Int) := of_decide_eq_true (by first | (with_reducible assumption) | assumption)
                                            have q205 : x9_3 < (((rd_T38 l2 x7_1).f1).length : Int) := of_decide_eq_true (by first | (with_reducible assumption) | assumption)
                                            obtain ⟨ad205, A205_4, c205_4, e205, hx205_0, hx205_1, hx205_2, hx205_3, hx205_4, hl205_4, hi205_4⟩ := at_T43 HR204_1.out x9_3 p205 q205
                                            cases e205
                                            have HR205_4 := Aside0.mk hi205_4
                                            have HC205_4 := Aside0.mk hl205_4
                                            clear hi205_4 hl205_4
                                            replace p205 := eq_true p205
                                            replace q205 := eq_true q205
                                            have p206 : 0 ≤ (x7_1 : Int) := of_decide_eq_true (by first | (with_reducible assumption) | assumption)
                                            have q206 : x7_1 < (l1.length : Int) := of_decide_eq_true (by first | (with_reducible assumption) | assumption)
                                            obtain ⟨ad206, A206_0, c206_0, e206, hx206_0, hl206_0, hi206_0⟩ := at_L4 HR1.out x7_1 p206 q206
                                            obtain rfl : ad202 = ad206 := (by injection e206)
                                            have HR206_0 := Aside0.mk hi206_0
                                            have HC206_0 := Aside0.mk hl206_0
                                            clear hi206_0 hl206_0
                                            replace p206 := eq_true p206
                                            replace q206 := eq_true q206
                                            have ea_ := Option.some.inj (hx202_0.symm.trans hx206_0)
                                            injection ea_ with ea_ en_ ec_
                                            subst ea_
                                            subst ec_
                                            clear en_
                                            have p207 : 0 ≤ (x9_3 : Int) := of_decide_eq_true (by first | (with_reducible assumption) | assumption)
                                            have q207 : x9_3 < ((rd_L4 l1 x7_1).length : Int) := of_decide_eq_true (by first | (with_reducible assumption) | assumption)
                                            obtain ⟨ad207, A207_4, c207_4, e207, hx207_0, hx207_1, hx207_2, hx207_3, hx207_4, hl207_4, hi207_4⟩ := at_T43 HR206_0.out x9_3 p207 q207
                                            cases e207
                                            have HR207_4 := Aside0.mk hi207_4
                                            have HC207_4 := Aside0.mk hl207_4
                                            clear hi207_4 hl207_4
                                            replace p207 := eq_true p207
                                            replace q207 := eq_true q207
                                            have p208 : 0 ≤ (x7_1 : Int) := of_decide_eq_true (by first | (with_reducible assumption) | assumption)
                                            have q208 : x7_1 < (l2.length : Int) := of_decide_eq_true (by first | (with_reducible assumption) | assumption)
                                            obtain ⟨ad208, A208_1, c208_1, e208, hx208_0, hx208_1, hl208_1, hi208_1⟩ := at_T38 HR2.out x7_1 p208 q208
                                            obtain rfl : ad196 = ad208 := (by injection e208)
                                            have HR208_1 := Aside0.mk hi208_1
                                            have HC208_1 := Aside0.mk hl208_1
                                            clear hi208_1 hl208_1
                                            replace p208 := eq_true p208
                                            replace q208 := eq_true q208
                                            have ea_ := Option.some.inj (hx204_1.symm.trans hx208_1)
                                            injection ea_ with ea_ en_ ec_
                                            subst ea_
                                            subst ec_
                                            clear en_
                                            have p209 : 0 ≤ (x9_3 : Int) := of_decide_eq_true (by first | (with_reducible assumption) | assumption)
                                            have q209 : x9_3 < (((rd_T38 l2 x7_1).f1).length : Int) := of_decide_eq_true (by first | (with_reducible assumption) | assumption)
                                            obtain ⟨ad209, A209_4, c209_4, e209, hx209_0, hx209_1, hx209_2, hx209_3, hx209_4, hl209_4, hi209_4⟩ := at_T43 HR208_1.out x9_3 p209 q209
                                            cases e209
                                            have HR209_4 := Aside0.mk hi209_4
                                            have HC209_4 := Aside0.mk hl209_4
                                            clear hi209_4 hl209_4
                                            replace p209 := eq_true p209
                                            replace q209 := eq_true q209
                                            have p210 : 0 ≤ (x7_1 : Int) := of_decide_eq_true (by first | (with_reducible assumption) | assumption)
                                            have q210 : x7_1 < (l0.length : Int) := of_decide_eq_true (by first | (with_reducible assumption) | assumption)
                                            obtain ⟨ad210, A210_1, c210_1, e210, hx210_0, hx210_1, hl210_1, hi210_1⟩ := at_T38 HR0.out x7_1 p210 q210
                                            cases e210
                                            have HR210_1 := Aside0.mk hi210_1
                                            have HC210_1 := Aside0.mk hl210_1
                                            clear hi210_1 hl210_1
                                            replace p210 := eq_true p210
                                            replace q210 := eq_true q210
                                            have p211 : 0 ≤ (x9_3 : Int) := of_decide_eq_true (by first | (with_reducible assumption) | assumption)
                                            have q211 : x9_3 < (((rd_T38 l0 x7_1).f1).length : Int) := of_decide_eq_true (by first | (with_reducible assumption) | assumption)
                                            obtain ⟨ad211, A211_4, c211_4, e211, hx211_0, hx211_1, hx211_2, hx211_3, hx211_4, hl211_4, hi211_4⟩ := at_T43 HR210_1.out x9_3 p211 q211
                                            cases e211
                                            have HR211_4 := Aside0.mk hi211_4
                                            have HC211_4 := Aside0.mk hl211_4
                                            clear hi211_4 hl211_4
                                            replace p211 := eq_true p211
                                            replace q211 := eq_true q211
                                            have p212 : 0 ≤ (x7_1 : Int) := of_decide_eq_true (by first | (with_reducible assumption) | assumption)
                                            have q212 : x7_1 < (l2.length : Int) := of_decide_eq_true (by first | (with_reducible assumption) | assumption)
                                            obtain ⟨ad212, A212_1, c212_1, e212, hx212_0, hx212_1, hl212_1, hi212_1⟩ := at_T38 HR2.out x7_1 p212 q212
                                            obtain rfl : ad196 = ad212 := (by injection e212)
                                            have HR212_1 := Aside0.mk hi212_1
                                            have HC212_1 := Aside0.mk hl212_1
                                            clear hi212_1 hl212_1
                                            replace p212 := eq_true p212
                                            replace q212 := eq_true q212
                                            have ea_ := Option.some.inj (hx204_1.symm.trans hx212_1)
                                            injection ea_ with ea_ en_ ec_
                                            subst ea_
                                            subst ec_
                                            clear en_
                                            have p213 : 0 ≤ (x9_3 : Int) := of_decide_eq_true (by first | (with_reducible assumption) | assumption)
                                            have q213 : x9_3 < (((rd_T38 l2 x7_1).f1).length : Int) := of_decide_eq_true (by first | (with_reducible assumption) | assumption)
                                            obtain ⟨ad213, A213_4, c213_4, e213, hx213_0, hx213_1, hx213_2, hx213_3, hx213_4, hl213_4, hi213_4⟩ := at_T43 HR212_1.out x9_3 p213 q213
                                            cases e213
                                            have HR213_4 := Aside0.mk hi213_4
                                            have HC213_4 := Aside0.mk hl213_4
                                            clear hi213_4 hl213_4
                                            replace p213 := eq_true p213
                                            replace q213 := eq_true q213
                                            go_wp2
                                            repeat (go_quiet (fail); try go_wp2)
                                            go_ret
                                            exact ⟨by first | rfl | (simp; done) | (simp [*]; done), by repeat (first | exact Drawn0.refl _ | apply Drawn0.step)⟩
                                        · rw [if_neg c24] at H
                                          exact absurd H (by simp)
                                      · rw [if_neg c23] at H
                                        exact absurd H (by simp)
                                  · rw [if_neg c21] at H
                                    have c21b0 : (((rd_T43 (rd_L4 l1 x7_1) x9_3).f0) == ((rd_T43 ((rd_T38 l2 x7_1).f1) x9_3).f0)) = false := beq_eq_false_iff_ne.mpr c21
                                    have c21b1 : (((rd_T43 (rd_L4 l1 x7_1) x9_3).f0) != ((rd_T43 ((rd_T38 l2 x7_1).f1) x9_3).f0)) = true := bne_iff_ne.mpr c21
                                    obtain rfl := Option.some.inj H
                                    have p202 : 0 ≤ (x7_1 : Int) := of_decide_eq_true (by first | (with_reducible assumption) | assumption)
                                    have q202 : x7_1 < (l1.length : Int) := of_decide_eq_true (by first | (with_reducible assumption) | assumption)
                                    obtain ⟨ad202, A202_0, c202_0, e202, hx202_0, hl202_0, hi202_0⟩ := at_L4 HR1.out x7_1 p202 q202
                                    cases e202
                                    have HR202_0 := Aside0.mk hi202_0
                                    have HC202_0 := Aside0.mk hl202_0
                                    clear hi202_0 hl202_0
                                    replace p202 := eq_true p202
                                    replace q202 := eq_true q202
                                    have p203 : 0 ≤ (x9_3 : Int) := of_decide_eq_true (by first | (with_reducible assumption) | assumption)
                                    have q203 : x9_3 < ((rd_L4 l1 x7_1).length : Int) := of_decide_eq_true (by first | (with_reducible assumption) | assumption)
                                    obtain ⟨ad203, A203_4, c203_4, e203, hx203_0, hx203_1, hx203_2, hx203_3, hx203_4, hl203_4, hi203_4⟩ := at_T43 HR202_0.out x9_3 p203 q203
                                    cases e203
                                    have HR203_4 := Aside0.mk hi203_4
                                    have HC203_4 := Aside0.mk hl203_4
                                    clear hi203_4 hl203_4
                                    replace p203 := eq_true p203
                                    replace q203 := eq_true q203
                                    have p204 : 0 ≤ (x7_1 : Int) := of_decide_eq_true (by first | (with_reducible assumption) | assumption)
                                    have q204 : x7_1 < (l2.length : Int) := of_decide_eq_true (by first | (with_reducible assumption) | assumption)
                                    obtain ⟨ad204, A204_1, c204_1, e204, hx204_0, hx204_1, hl204_1, hi204_1⟩ := at_T38 HR2.out x7_1 p204 q204
                                    obtain rfl : ad196 = ad204 := (by injection e204)
                                    have HR204_1 := Aside0.mk hi204_1
                                    have HC204_1 := Aside0.mk hl204_1
                                    clear hi204_1 hl204_1
                                    replace p204 := eq_true p204
                                    replace q204 := eq_true q204
                                    have p205 : 0 ≤ (x9_3 : Int) := of_decide_eq_true (by first | (with_reducible assumption) | assumption)
                                    have q205 : x9_3 < (((rd_T38 l2 x7_1).f1).length : Int) := of_decide_eq_true (by first | (with_reducible assumption) | assumption)
                                    obtain ⟨ad205, A205_4, c205_4, e205, hx205_0, hx205_1, hx205_2, hx205_3, hx205_4, hl205_4, hi205_4⟩ := at_T43 HR204_1.out x9_3 p205 q205
                                    cases e205
                                    have HR205_4 := Aside0.mk hi205_4
                                    have HC205_4 := Aside0.mk hl205_4
                                    clear hi205_4 hl205_4
                                    replace p205 := eq_true p205
                                    replace q205 := eq_true q205
                                    go_wp2
                                    repeat (go_quiet (fail); try go_wp2)
                                    go_ret
                                    exact ⟨by first | rfl | (simp; done) | (simp [*]; done), by repeat (first | exact Drawn0.refl _ | apply Drawn0.step)⟩
                                · rw [if_neg c20] at H
                                  exact absurd H (by simp)
                              · rw [if_neg c19] at H
                                exact absurd H (by simp)
                            · rw [if_neg c18] at H
                              exact absurd H (by simp)
                          · rw [if_neg c17] at H
                            exact absurd H (by simp)
                        · rw [if_neg c16] at H
                          exact absurd H (by simp)
                      · rw [if_neg c15] at H
                        exact absurd H (by simp)
                    · rw [if_neg c14] at H
                      have c14b0 : decide (x9_3 < (((rd_T38 l2 x7_1).f1).length : Int)) = false := decide_eq_false c14
                      clear c14
                      have H' := Aside0.mk H
                      clear H
                      go_wp2
                      repeat (go_quiet (fail); try go_wp2)
                      go_roundg k3
                      case measure => have := HK1.out; have := HJ5.out; have := HK3.out; omega
                      case rel => exact ⟨(wrap64 (x7_1 + 1)), (by first | rfl | (simp; done) | (simp [*]; done)), H', ⟨by have := HK1.out; have := HJ5.out; have := HK3.out; omega⟩, by repeat (first | exact Drawn0.refl _ | apply Drawn0.step)⟩
        · rw [if_neg c5] at H
          exact absurd H (by simp)
      · rw [if_neg c4] at H
        have c4b0 : decide (x7_1 < (l2.length : Int)) = false := decide_eq_false c4
        clear c4
        by_cases c26 : 0 ≤ (l2.length : Int)
        · rw [if_pos c26] at H
          have c26b0 : decide (0 ≤ (l2.length : Int)) = true := decide_eq_true c26
          have c26b1 : decide (0 ≤ l2.length) = true := decide_eq_true (by omega)
          clear c26
          by_cases c27 : (l2.length : Int) < (l0.length : Int)
          · rw [if_pos c27] at H
            have c27b0 : decide ((l2.length : Int) < (l0.length : Int)) = true := decide_eq_true c27
            have c27b1 : decide (l2.length < l0.length) = true := decide_eq_true (Int.ofNat_lt.mp c27)
            clear c27
            obtain rfl := Option.some.inj H
            have p195 : 0 ≤ ((l2.length : Int) : Int) := of_decide_eq_true (by first | (with_reducible assumption) | assumption)
            have q195 : (l2.length : Int) < (l0.length : Int) := of_decide_eq_true (by first | (with_reducible assumption) | assumption)
            obtain ⟨ad195, A195_1, c195_1, e195, hx195_0, hx195_1, hl195_1, hi195_1⟩ := at_T38 HR0.out (l2.length : Int) p195 q195
            cases e195
            have HR195_1 := Aside0.mk hi195_1
            have HC195_1 := Aside0.mk hl195_1
            clear hi195_1 hl195_1
            (try simp only [Go.IntWalk.toNatUp] at hx195_0)
            (try simp only [Go.IntWalk.toNatUp] at hx195_1)
            replace p195 := eq_true p195
            replace q195 := eq_true q195
            go_wp2
            repeat (go_quiet (fail); try go_wp2)
            go_ret
            exact ⟨by first | rfl | (simp; done) | (simp [*]; done), by repeat (first | exact Drawn0.refl _ | apply Drawn0.step)⟩
          · rw [if_neg c27] at H
            exact absurd H (by simp)
        · rw [if_neg c26] at H
          exact absurd H (by simp)
end Go.Proofs.Ytokbonceeglciaa.Print
end
section
namespace Go.Proofs.Ytokbonceeglciaa.Given
open Go.RowKit Go.Proofs.YtokbonceeglciaaW.PrintWords
set_option linter.unusedVariables false
set_option linter.unusedSimpArgs false
def seg (cs : List Value) (s j : Nat) : List Value := (cs.drop (j * s)).take s
theorem seg_left {cs ds : List Value} {s j : Nat} (h : (j + 1) * s ≤ cs.length) : seg (cs ++ ds) s j = seg cs s j := by
  unfold seg
  rw [Nat.add_mul, Nat.one_mul] at h
  rw [List.drop_append_of_le_length (by omega), List.take_append_of_le_length (by rw [List.length_drop]; omega)]
theorem seg_right {cs ds : List Value} {s j : Nat} (h : cs.length = j * s) (hd : ds.length = s) : seg (cs ++ ds) s j = ds := by
  unfold seg
  rw [← h, List.drop_left, List.take_of_length_le (by omega)]
theorem seg_last {cs ds es : List Value} {s j : Nat} (h : cs.length = j * s) (hd : ds.length = s) : seg (cs ++ (ds ++ es)) s j = ds := by
  unfold seg
  rw [← h, List.drop_left, List.take_append_of_le_length (by omega), List.take_of_length_le (by omega)]
theorem seg_get {cs : List Value} {s j i : Nat} (hi : i < s) : (seg cs s j)[i]? = cs[j * s + i]? := by
  unfold seg
  rw [List.getElem?_take, if_pos hi, List.getElem?_drop]
theorem add0 (g n : Nat) : (⟨g, 0, none⟩ : Addr).add n = ⟨g, n, none⟩ := by simp [Addr.add]; omega
section
variable {α : Type} {d : Kd α} {w : World} {A : Option Addr} {xs : List α}
theorem C_flat (h : d.C w A xs.length xs) (hp : 0 < xs.length) : ∃ (ad : Addr) (cs : List Value), A = some ad ∧ cs.length = xs.length * d.sz ∧ (∀ i u, cs[i]? = some u → w.cell? (ad.add i) = some u) ∧ (∀ u ∈ cs, u.oneCell' = true) ∧ ∀ (j : Nat) (x : α), xs[j]? = some x → d.K w x (seg cs d.sz j) := by
  obtain ⟨_, _, h3⟩ := h
  obtain ⟨ad, rfl, hc⟩ := h3 hp
  have key : ∀ n, n ≤ xs.length → ∃ cs : List Value, cs.length = n * d.sz ∧ (∀ i u, cs[i]? = some u → w.cell? (ad.add i) = some u) ∧ (∀ u ∈ cs, u.oneCell' = true) ∧ ∀ (j : Nat) (x : α), j < n → xs[j]? = some x → d.K w x (seg cs d.sz j) := by
    intro n
    induction n with
    | zero => exact fun _ => ⟨[], by simp, by simp, by simp, fun j x hj => by omega⟩
    | succ n ih =>
      intro hn
      obtain ⟨cs, h1, h2, h3, h4⟩ := ih (by omega)
      obtain ⟨c, hcl, hK, hcc⟩ := hc n xs[n] (List.getElem?_eq_getElem (by omega))
      refine ⟨cs ++ c, by rw [List.length_append, h1, hcl, Nat.add_mul, Nat.one_mul], fun i u hu => ?_, fun u hu => ?_, fun j x hj hx => ?_⟩
      · by_cases hi : i < cs.length
        · rw [List.getElem?_append_left hi] at hu
          exact h2 i u hu
        · rw [List.getElem?_append_right (by omega)] at hu
          have := hcc _ u hu
          rwa [show n * d.sz + (i - cs.length) = i by omega] at this
      · rcases List.mem_append.1 hu with hu | hu
        · exact h3 u hu
        · exact d.K_one hK u hu
      · by_cases hjn : j < n
        · rw [seg_left (by rw [h1]; exact Nat.mul_le_mul_right _ hjn)]
          exact h4 j x hjn hx
        · obtain rfl : j = n := by omega
          rw [seg_right h1 hcl]
          rw [List.getElem?_eq_getElem (by omega)] at hx
          injection hx with hx
          rw [← hx]
          exact hK
  obtain ⟨cs, h1, h2, h3, h4⟩ := key xs.length (Nat.le_refl _)
  exact ⟨ad, cs, rfl, h1, h2, h3, fun j x hx => h4 j x (List.getElem?_eq_some_iff.1 hx).1 hx⟩
theorem blk_C {g : Nat} {t : TypeId} {cs : List Value} (h : w.heap[g]? = some (.cells cs.toArray t (0, 0))) (hm : xs.length ≤ 9223372036854775807) (hk : ∀ (j : Nat) (x : α), xs[j]? = some x → d.K w x (seg cs d.sz j)) : d.C w (some ⟨g, 0, none⟩) xs.length xs := by
  refine ⟨rfl, hm, fun _ => ⟨_, rfl, fun j p hj => ⟨_, d.K_len (hk j p hj), hk j p hj, fun i u hu => ?_⟩⟩⟩
  have hi : i < d.sz := by
    have := (List.getElem?_eq_some_iff.1 hu).1
    rw [d.K_len (hk j p hj)] at this
    exact this
  rw [seg_get hi] at hu
  rw [add0, blk_cell h, List.getElem?_toArray]
  exact hu
end
theorem run_copy_sz {P : Program} (w : World) (dT sT ty elem : TypeId) (g o dLen dCap : Nat) (a : Addr) (sLen sCap size : Nat) (cur : Array Value) (t : TypeId) (cs : List Value)
    (hu : P.underlying dT = some (.slice elem)) (hs : (P.info? elem).map (·.size) = some size)
    (hg : w.heap[g]? = some (.cells cur t (0, 0))) (hn : cs.length = Nat.min sLen dLen * size)
    (hsrc : ∀ j v, cs[j]? = some v → w.cell? (a.add j) = some v) (hfit : o + cs.length ≤ cur.size) (h1 : ∀ v ∈ cs, v.oneCell' = true) :
    (Builtin.copy_ #[dT, sT] ty #[.slice (some ⟨g, o, none⟩) dLen dCap, .slice (some a) sLen sCap]).run P w =
      .ok (goInt (Nat.min sLen dLen)) (w.setRow g (cur.toList.take o ++ cs ++ cur.toList.drop (o + cs.length)).toArray) := by
  have hl := run_loadCells_list (P := P) w a cs hsrc
  have hst := run_storeCells_at P g o t cs 0 cur w hg (by simpa using hfit) h1
  cases hq : P.info? elem with
  | none => simp [hq] at hs
  | some i =>
    have hi : i.size = size := by simpa [hq] using hs
    simp [Builtin.copy_, run_underlying hu, Builtin.lenOf, Builtin.firstCells, sizeOf, typeInfo, hq, hi, ← hn, hl, hst]
theorem run_copy_sz0 {P : Program} (w : World) (dT sT ty elem : TypeId) (d : Option Addr) (dLen dCap : Nat) (a : Option Addr) (sCap size : Nat) (hu : P.underlying dT = some (.slice elem)) (hs : (P.info? elem).map (·.size) = some size) :
    (Builtin.copy_ #[dT, sT] ty #[.slice d dLen dCap, .slice a 0 sCap]).run P w = .ok (goInt 0) w := by
  cases hq : P.info? elem with
  | none => simp [hq] at hs
  | some i =>
    have hl : ∀ (x : Addr), (loadCells x 0).run P w = .ok #[] w := fun x => by simpa using run_loadCells_list (P := P) w x [] (by simp)
    cases d <;> cases a <;> simp [Builtin.copy_, run_underlying hu, Builtin.lenOf, Builtin.firstCells, sizeOf, typeInfo, hq, storeCells, hl]
end Go.Proofs.Ytokbonceeglciaa.Given
end
section
namespace Go.Proofs.Ytokbonceeglciaa.Given
open Go.RowKit Go.Proofs.YtokbonceeglciaaW.PrintWords
set_option linter.unusedVariables false
set_option linter.unusedSimpArgs false
def Stays (W w1 : World) (e size : Nat) (v : Value) (n : Nat) (v1 : Value) : Prop :=
  (∃ p cap, v = .slice (some p) n cap ∧ v1 = .slice (some p) (n + 1) cap ∧ ∀ b m inner, m ≤ n → W.ownsRow b e size (.slice (some p) m cap) m inner → w1.ownsRow b e size (.slice (some p) m cap) m inner)
  ∨ (W.grownBy w1 none ∧ ∃ b, v1.ownBlock = some b ∧ W.heap.size ≤ b)
theorem own_room {W : World} {g n m cap e size b : Nat} {cur : Array Value} {ys inner : List Value} (hh : W.heap[g]? = some (.cells cur e (0, 0))) (hys : ys.length = size) (hcs : cur.size = cap * size) (hroom : n + 1 ≤ cap) (hmn : m ≤ n)
    (h : W.ownsRow b e size (.slice (some ⟨g, 0, none⟩) m cap) m inner) : (W.setRow g (cur.toList.take (n * size) ++ ys ++ cur.toList.drop (n * size + ys.length)).toArray).ownsRow b e size (.slice (some ⟨g, 0, none⟩) m cap) m inner := by
  refine ⟨h.1, ?_⟩
  rcases h.2 with ⟨h', _⟩ | ⟨g', cap', cur', h', hb, hg, hnc, hcm, hcs', htake⟩
  · cases h'
  · injection h' with e1 _ e3
    injection e1 with e1
    injection e1 with e1
    subst e1
    subst e3
    rw [hh] at hg
    injection hg with hg
    injection hg with hg
    subst hg
    have hle : n * size + size ≤ cap * size := by rw [← Nat.succ_mul]; exact Nat.mul_le_mul_right _ hroom
    have hle2 : m * size ≤ n * size := Nat.mul_le_mul_right _ hmn
    refine .inr ⟨g, cap, _, rfl, hb, setRow_heap W g cur _ e _ hh, hnc, hcm, ?_, ?_⟩
    · simp only [List.size_toArray, List.length_append, List.length_take, List.length_drop, Array.length_toList]
      omega
    · rw [← htake]
      show List.take (m * size) (List.take (n * size) cur.toList ++ ys ++ List.drop (n * size + ys.length) cur.toList) = _
      rw [List.append_assoc, List.take_append_of_le_length (by rw [List.length_take, Array.length_toList]; omega), List.take_take, Nat.min_eq_left hle2]
theorem run_append_beside {P : Program} {W : World} {base : Nat} {t ty e : TypeId} {z : Value} {size bytes : Nat}
    (ht : P.underlying t = some (.slice e)) (hinfo : (P.info? e).map (fun i => (i.zero, i.size, i.bytes)) = some (some z, size, bytes)) (hz : z.cells.size = size) (hs0 : 0 < size) (hb0 : 0 < bytes)
    {v : Value} {n : Nat} {xs ys : List Value} (hys : ys.length = size) (h1 : ∀ u ∈ ys, u.oneCell' = true)
    (HO : W.ownsRow base e size v n xs) (hbase : base ≤ W.heap.size) (hl : (n + 1) * bytes ≤ 140737488355328) :
    ∃ v1 w1, (Builtin.append_ #[t, t] ty #[v, .slice (some ⟨W.heap.size, 0, none⟩) 1 1]).run P (W.alloc (.cells ys.toArray e)) = .ok v1 w1 ∧ w1.ownsRow base e size v1 (n + 1) (xs ++ ys) ∧ W.grownBy w1 v.ownBlock ∧ Stays W w1 e size v n v1 := by
  obtain ⟨i0, hi, hzz⟩ := Option.map_eq_some_iff.1 hinfo
  simp only [Prod.mk.injEq] at hzz
  obtain ⟨hz0, hz1, hz2⟩ := hzz
  have hlen : n + 1 ≤ 140737488355328 := Nat.le_trans (Nat.le_mul_of_pos_right _ hb0) hl
  have hnews : ∀ j u, ys[j]? = some u → (W.alloc (.cells ys.toArray e)).cell? ((⟨W.heap.size, 0, none⟩ : Addr).add j) = some u := by
    simpa using World.news_of_block (cs := ys.toArray) (t := e) (fr := (0, 0)) (heap_alloc_new W (.cells ys.toArray e))
  have old : ∀ (hn : ∀ p cap, v = .slice (some p) n cap → cap < n + 1), ∃ v1 w1, (Builtin.append_ #[t, t] ty #[v, .slice (some ⟨W.heap.size, 0, none⟩) 1 1]).run P (W.alloc (.cells ys.toArray e)) = .ok v1 w1 ∧ w1.ownsRow base e size v1 (n + 1) (xs ++ ys) ∧ W.grownBy w1 v.ownBlock ∧ Stays W w1 e size v n v1 := by
    intro hn
    rcases HO.2 with ⟨rfl, rfl⟩ | ⟨g, cap, cur, rfl, hg, hh, hnc, hcm, hcs, htake⟩
    · obtain ⟨v1, w1, hr, hown, hg, hiff, hat⟩ := run_append_own_at (P := P) (W.alloc (.cells ys.toArray e)) base t ty e i0 z size bytes ht hi hz0 hz1 hz2 hz hs0 _ 0 xs (HO.alloc _) ⟨W.heap.size, 0, none⟩ 1 1 ys (by rw [hys]; simp) hnews h1 (by simp only [maxLen]; omega) hl (by simp; omega)
      have hg2 := World.grownBy.trans (World.grownBy_alloc W (.cells ys.toArray e) _) hg
      refine ⟨v1, w1, hr, hown, hg2, .inr ⟨hg2, ?_⟩⟩
      rcases hat with hat | hat
      · exfalso
        rcases hown.2 with ⟨_, h2⟩ | ⟨g, cap, cur, rfl, _⟩
        · omega
        · simp [Value.ownBlock] at hat
      · exact ⟨_, hat, by simp⟩
    · have hcap := hn _ _ rfl
      have holds : ∀ j u, xs[j]? = some u → (W.alloc (.cells ys.toArray e)).cell? ((⟨g, 0, none⟩ : Addr).add j) = some u := (HO.alloc _).cells (g := g) rfl
      obtain ⟨v1, w1, hr, hown, hgr⟩ := run_append_arg_grows (P := P) (W.alloc (.cells ys.toArray e)) t ty e i0 z size bytes ht hi hz0 hz1 hz2 hz hs0 ⟨g, 0, none⟩ n cap xs HO.1 holds ⟨W.heap.size, 0, none⟩ 1 1 ys (by rw [hys]; simp) hnews hcap (by simp only [maxLen]; omega) hl
      have hg2 : W.grownBy w1 none := World.grownBy.trans (World.grownBy_alloc W _ _) hgr
      refine ⟨v1, w1, hr, own_weaken hown (by simp; omega), ⟨hg2.os, hg2.tape, hg2.output, hg2.size, fun k hk _ => hg2.block k hk (by simp)⟩, .inr ⟨hg2, ?_⟩⟩
      rcases hown.2 with ⟨_, h2⟩ | ⟨g1, cap1, cur1, rfl, hb1, _⟩
      · omega
      · exact ⟨g1, rfl, by simp at hb1; omega⟩
  rcases HO.2 with ⟨rfl, rfl⟩ | ⟨g, cap, cur, rfl, hg, hh, hnc, hcm, hcs, htake⟩
  · exact old (fun p cap h => by cases h)
  · by_cases hroom : n + 1 ≤ cap
    · have hal : ∀ k, k < W.heap.size → (W.alloc (.cells ys.toArray e)).heap[k]? = W.heap[k]? := fun k hk => (World.grownBy_alloc W (.cells ys.toArray e) none).block k hk (by simp)
      have hh2 := (hal g (blk_lt hh)).trans hh
      have hle : n * size + size ≤ cap * size := by rw [← Nat.succ_mul]; exact Nat.mul_le_mul_right _ hroom
      have hr := run_append_room (P := P) (W.alloc (.cells ys.toArray e)) t ty e i0 ht hi g n cap cur hh2 ⟨W.heap.size, 0, none⟩ 1 1 ys (by rw [hys, hz1]; simp) hnews h1 hroom (by rw [hz1]; omega)
      rw [hz1] at hr
      refine ⟨_, _, hr, ⟨by rw [List.length_append, HO.1, hys, Nat.add_mul]; omega, .inr ⟨g, cap, _, rfl, hg, setRow_heap _ g cur _ e _ hh2, hroom, hcm, ?_, ?_⟩⟩, ?_, .inl ⟨⟨g, 0, none⟩, cap, rfl, rfl, fun b m inner hm hI => own_room hh2 hys hcs hroom hm (hI.alloc _)⟩⟩
      · simp only [List.size_toArray, List.length_append, List.length_take, List.length_drop, Array.length_toList]
        omega
      · have hxl := HO.1
        show List.take ((n + 1) * size) (List.take (n * size) cur.toList ++ ys ++ List.drop (n * size + ys.length) cur.toList) = _
        rw [htake, Nat.succ_mul, List.take_left' (by rw [List.length_append, hxl, hys])]
      · exact ⟨rfl, rfl, rfl, by simp, fun k hk hne => (setRow_other _ g k _ (fun he => hne (by simp [Value.ownBlock, he]))).trans (hal k hk)⟩
    · exact old (fun p c h => by injection h with _ _ h; omega)
section
variable {P : Program} {ops : Array Oper} {rest : List Oper} {o : Oper} {a : Act} {Q : Exit → Act → World → Prop} {Kc : Act → World → Prop}
theorem append_beside {W : World} (base : Nat) (hgd : o.guard = none) (s x : Operand) (t e : TypeId) (z : Value) (size bytes : Nat)
    (ho : o.op = .call { callee := .builtin .append, args := #[s, x], argTypes := #[t, t] })
    (ht : P.underlying t = some (.slice e)) (hinfo : (P.info? e).map (fun i => (i.zero, i.size, i.bytes)) = some (some z, size, bytes)) (hz : z.cells.size = size) (hs0 : 0 < size) (hb0 : 0 < bytes)
    (v : Value) (n : Nat) (xs ys : List Value) (hs : a.eval s = v) (hx : a.eval x = .slice (some ⟨W.heap.size, 0, none⟩) 1 1) (hys : ys.length = size) (h1 : ∀ u ∈ ys, u.oneCell' = true)
    (HO : W.ownsRow base e size v n xs) (hbase : base ≤ W.heap.size) (hl : (n + 1) * bytes ≤ 140737488355328)
    (h : ∀ v1 w1, w1.ownsRow base e size v1 (n + 1) (xs ++ ys) → W.grownBy w1 v.ownBlock → Stays W w1 e size v n v1 → wpList P ops Q rest (a.put o.dst v1) w1) :
    wpList P ops Q (o :: rest) a (W.alloc (.cells ys.toArray e)) := by
  obtain ⟨v1, w1, hr, h2, h3, h4⟩ := run_append_beside (P := P) (ty := o.type) ht hinfo hz hs0 hb0 hys h1 HO hbase hl
  refine wpList_plain hgd fun K hK => ?_
  unfold Oper.wp execOp
  simp only [ho, resolve, invoke, builtin, Sem.run_bind, Sem.run_pure, Result.andThen_ok, List.map_toArray, List.map_cons, List.map_nil, hs, hx, hr]
  exact hK _ _ (h v1 w1 h2 h3 h4)
end
structure Ext (W w : World) (e size : Nat) (v : Value) (n : Nat) : Prop where
  grown : W.grownBy w v.ownBlock
  stays : ∀ b inner, W.ownsRow b e size v n inner → w.ownsRow b e size v n inner
def Side (top : Nat) (v : Value) (n : Nat) (vc : Value) (m : Nat) : Prop :=
  (∃ p cap, v = .slice (some p) n cap ∧ vc = .slice (some p) m cap ∧ n ≤ m) ∨ ∀ k, vc.ownBlock = some k → top ≤ k
theorem Ext.refl (W : World) (e size : Nat) (v : Value) (n : Nat) : Ext W W e size v n := ⟨⟨rfl, rfl, rfl, Nat.le_refl _, fun _ _ _ => rfl⟩, fun _ _ h => h⟩
theorem Side.refl {A : Option Addr} {top n cap : Nat} : Side top (.slice A n cap) n (.slice A n cap) n := by
  cases A with
  | none => exact .inr (fun k hk => by simp [Value.ownBlock] at hk)
  | some p => exact .inl ⟨p, cap, rfl, rfl, Nat.le_refl _⟩
theorem Ext.step {W0 W w1 : World} {e size n m : Nat} {v vc v1 : Value} (hx : Ext W0 W e size v n) (hs : Side W0.heap.size v n vc m) (hg : W.grownBy w1 vc.ownBlock) (hst : Stays W w1 e size vc m v1) : Ext W0 w1 e size v n ∧ Side W0.heap.size v n v1 (m + 1) := by
  have hsz := hx.grown.size
  rcases hst with ⟨p, cap, rfl, rfl, hk⟩ | ⟨hg2, b, hv1, hb⟩
  · rcases hs with ⟨p', cap', rfl, h2, hn⟩ | hs
    · injection h2 with e1 _ e3
      injection e1 with e1
      subst e1 e3
      have ho : (Value.slice (some p) n cap).ownBlock = (Value.slice (some p) m cap).ownBlock := rfl
      refine ⟨⟨?_, fun b inner hI => hk b n inner hn (hx.stays b inner hI)⟩, .inl ⟨p, cap, rfl, rfl, by omega⟩⟩
      rw [ho]
      exact World.grownBy.trans (by rw [← ho]; exact hx.grown) hg
    · have hp := hs p.block rfl
      refine ⟨⟨⟨hg.os.trans hx.grown.os, hg.tape.trans hx.grown.tape, hg.output.trans hx.grown.output, Nat.le_trans hsz hg.size, fun k hk hne => ?_⟩, fun b inner hI => ?_⟩, .inr hs⟩
      · refine (hg.block k (by omega) (fun he => ?_)).trans (hx.grown.block k hk hne)
        simp [Value.ownBlock] at he
        omega
      · refine (hx.stays b inner hI).kept hg ?_
        right
        intro he
        have := (hI.lt p.block (by rw [he]; rfl)).2
        omega
  · have hall : W0.grownBy w1 v.ownBlock := ⟨hg2.os.trans hx.grown.os, hg2.tape.trans hx.grown.tape, hg2.output.trans hx.grown.output, Nat.le_trans hsz hg2.size, fun k hk hne => (hg2.block k (by omega) (by simp)).trans (hx.grown.block k hk hne)⟩
    refine ⟨⟨hall, fun b inner hI => (hx.stays b inner hI).kept hg2 (by cases v.ownBlock <;> simp)⟩, .inr (fun k hk => ?_)⟩
    rw [hv1] at hk
    injection hk with hk
    omega
theorem R_stay {α : Type} {d : Kd α} {e base : Nat} {ok : Nat → Prop} {W w : World} {v : Value} {xs : List α} (h : d.R e W base ok v xs) (hx : Ext W w e d.sz v xs.length) : d.R e w base ok v xs := by
  obtain ⟨h0, inner, ho, hr⟩ := h
  refine ⟨h0, inner, hx.stays _ _ ho, hr.imp_ (fun p c hp => ?_)⟩
  exact Kd.M_step hp (fun k hk hlt => hx.grown.block k hlt hk.2)
end Go.Proofs.Ytokbonceeglciaa.Given
end
section
namespace Go.Proofs.Ytokbonceeglciaa.Bk
open Go.RowKit Go.Proofs.YtokbonceeglciaaW.PrintWords Go.Proofs.Ytokbonceeglciaa.Given
set_option linter.unusedVariables false
set_option linter.unusedSimpArgs false
abbrev Any : Nat → Prop := fun _ => True
def KT (t : TypeId) (w w' : World) : Prop := ∀ (k : Nat) (cs : Array Value), w.heap[k]? = some (.cells cs t (0, 0)) → w'.heap[k]? = some (.cells cs t (0, 0))
theorem KT.refl (t : TypeId) (w : World) : KT t w w := fun _ _ h => h
theorem KT.trans {t : TypeId} {w w1 w2 : World} (h : KT t w w1) (k : KT t w1 w2) : KT t w w2 := fun a cs ha => k a cs (h a cs ha)
theorem KT.below {t : TypeId} {w w1 : World} (h : Below w.heap.size w w1) : KT t w w1 := fun k cs hk => blk_below hk h
theorem KT.grown {t e : TypeId} {w w1 : World} {v : Value} (hg : w.grownBy w1 v.ownBlock) (hty : ∀ k, v.ownBlock = some k → ∃ cells, w.heap[k]? = some (.cells cells e (0, 0))) (hne : t ≠ e) : KT t w w1 := fun k cs hk =>
  blk_grown hk hg (fun he => by
    obtain ⟨cells, hc⟩ := hty k he.symm
    rw [hk] at hc
    injection hc with hc
    injection hc with _ h2
    exact hne h2)
theorem KT.of_none {t : TypeId} {w w1 : World} (hg : w.grownBy w1 none) : KT t w w1 := fun k cs hk => blk_grown hk hg (by simp)
theorem KT.set {t e : TypeId} {w : World} {g : Nat} {cs0 : Array Value} (hb : w.heap[g]? = some (.cells cs0 e (0, 0))) (hne : t ≠ e) (j : Nat) (u : Value) : KT t w (w.setCell ⟨g, j, none⟩ u) := fun k cs hk =>
  (Below.heap_setCell w ⟨g, j, none⟩ u k (fun he => by
    have he : k = g := he
    subst he
    rw [hk] at hb
    injection hb with hb
    injection hb with _ h2
    exact hne h2)).trans hk
section
variable {α : Type} {d : Kd α} {e base : Nat} {ok : Nat → Prop} {w w1 : World} {v : Value} {xs : List α}
theorem R_kt (hE : d.E = []) (h : d.R e w base ok v xs) (hk : KT e w w1) : d.R e w1 base ok v xs := by
  have h1 := Kd.R_step (w1 := w1) (Kd.R_tight hE h) (fun k ho _ => by
    obtain ⟨cells, hc⟩ := Kd.R_typed h k ho.symm
    rw [hc, hk k cells hc])
  exact Kd.R_mono h1 (fun k hk => h.1 k hk.symm)
theorem R_own_kept (hE : d.E = []) (h : d.R e w base ok v xs) (hk : ∀ k, v.ownBlock = some k → w1.heap[k]? = w.heap[k]?) : d.R e w1 base ok v xs :=
  Kd.R_mono (Kd.R_step (w1 := w1) (Kd.R_tight hE h) (fun k ho _ => hk k ho.symm)) (fun k hk => h.1 k hk.symm)
theorem R_other (hE : d.E = []) (h : d.R e w base ok v xs) {row : Option Nat} (hg : w.grownBy w1 row) (hne : ∀ k, v.ownBlock = some k → row ≠ some k) : d.R e w1 base ok v xs :=
  R_own_kept hE h (fun k hk => hg.block k (Kd.R_lt h k hk) (fun he => hne k hk he.symm))
end
def Parted (l : List Value) : Prop := ∀ (p q : Nat) (u v : Value), l[p]? = some u → l[q]? = some v → p ≠ q → ∀ k, u.ownBlock = some k → v.ownBlock ≠ some k
structure Book (w : World) (g base tb eo : Nat) (vo vw : Value) (fr : Int) (ol wl : List Value) : Prop where
  low : base ≤ g
  blk : w.heap[g]? = some (.cells #[vo, vw, .int .i64 fr] tb (0, 0))
  ro : (Kd.raw 1).R eo w base Any vo (ol.map (fun v => [v]))
  rw : (Kd.raw 1).R eo w base Any vw (wl.map (fun v => [v]))
  ap : ∀ k, vo.ownBlock = some k → vw.ownBlock ≠ some k
theorem Book.kt {w w1 : World} {g base tb eo : Nat} {vo vw : Value} {fr : Int} {ol wl : List Value} (h : Book w g base tb eo vo vw fr ol wl) (h1 : KT tb w w1) (h2 : KT eo w w1) : Book w1 g base tb eo vo vw fr ol wl :=
  ⟨h.low, h1 _ _ h.blk, R_kt rfl h.ro h2, R_kt rfl h.rw h2, h.ap⟩
structure Kept (ok : Nat → Prop) (W w : World) : Prop where
  os : w.os = W.os
  tape : w.tape = W.tape
  output : w.output = W.output
  size : W.heap.size ≤ w.heap.size
  block : ∀ k, k < W.heap.size → ¬ ok k → w.heap[k]? = W.heap[k]?
theorem Kept.refl (ok : Nat → Prop) (W : World) : Kept ok W W := ⟨rfl, rfl, rfl, Nat.le_refl _, fun _ _ _ => rfl⟩
theorem Kept.grown {ok : Nat → Prop} {W w w1 : World} {row : Option Nat} (h : Kept ok W w) (hg : w.grownBy w1 row) (hok : ∀ k, row = some k → ok k ∨ W.heap.size ≤ k) : Kept ok W w1 :=
  ⟨hg.os.trans h.os, hg.tape.trans h.tape, hg.output.trans h.output, Nat.le_trans h.size hg.size, fun k hk hn => (hg.block k (Nat.lt_of_lt_of_le hk h.size) (fun he => (hok k he.symm).elim hn (fun h2 => by omega))).trans (h.block k hk hn)⟩
theorem Kept.below {ok : Nat → Prop} {W w w1 : World} (h : Kept ok W w) (hb : Below w.heap.size w w1) : Kept ok W w1 :=
  ⟨hb.os.trans h.os, hb.tape.trans h.tape, hb.output.trans h.output, Nat.le_trans h.size hb.size, fun k hk hn => (hb.block k (Nat.lt_of_lt_of_le hk h.size)).trans (h.block k hk hn)⟩
theorem Kept.set {ok : Nat → Prop} {W w : World} (h : Kept ok W w) (g j : Nat) (u : Value) (hok : ok g) : Kept ok W (w.setCell ⟨g, j, none⟩ u) :=
  ⟨h.os, h.tape, h.output, by simpa [World.setCell] using h.size, fun k hk hn => (Below.heap_setCell w ⟨g, j, none⟩ u k (fun he => hn (by have he : k = g := he; rw [he]; exact hok))).trans (h.block k hk hn)⟩
theorem Kept.to_below {ok : Nat → Prop} {W w : World} {base : Nat} (h : Kept ok W w) (hok : ∀ k, ok k → base ≤ k) (hb : base ≤ W.heap.size) : Below base W w :=
  ⟨h.os, h.tape, h.output, h.size, fun k hk => h.block k (by omega) (fun h2 => by have := hok k h2; omega)⟩
theorem below_setG {base g : Nat} {w w1 : World} (h : Below base w w1) (hg : base ≤ g) (j : Nat) (u : Value) : Below base w (w1.setCell ⟨g, j, none⟩ u) :=
  ⟨h.os, h.tape, h.output, by simpa [World.setCell] using h.size, fun k hk => (Below.heap_setCell w1 ⟨g, j, none⟩ u k (by show k ≠ g; omega)).trans (h.block k hk)⟩
theorem Book.pushO {w w1 : World} {g base tb eo : Nat} {vo vw u : Value} {fr : Int} {ol wl : List Value} {l : Value} (h : Book w g base tb eo vo vw fr ol wl) (hne : eo ≠ tb) (hr : (Kd.raw 1).R eo w1 base Any u (ol.map (fun v => [v]) ++ [[l]])) (hg : w.grownBy w1 vo.ownBlock) (hat : u.ownBlock = vo.ownBlock ∨ ∃ b, u.ownBlock = some b ∧ w.heap.size ≤ b) :
    w1.cell? ⟨g, 0, none⟩ = some vo ∧ w1.frozen? ⟨g, 0, none⟩ = false ∧ Book (w1.setCell ⟨g, 0, none⟩ u) g base tb eo u vw fr (ol ++ [l]) wl ∧ (∀ t, t ≠ eo → t ≠ tb → KT t w (w1.setCell ⟨g, 0, none⟩ u)) := by
  have hb1 := blk_grown h.blk hg (Kd.R_ne h.ro h.blk hne)
  have hw1 := R_other (w1 := w1) rfl h.rw hg (fun k hk he => h.ap k he hk)
  refine ⟨(blk_cell hb1 0).trans rfl, blk_frozen hb1 0, ⟨h.low, (blk_set hb1 0 u).trans rfl, ?_, Kd.R_set hw1 hb1 (by simpa [Kd.raw] using hne) 0 u, fun k hk => ?_⟩, fun t h1 h2 => (KT.grown hg (Kd.R_typed h.ro) h1).trans (KT.set hb1 h2 0 u)⟩
  · rw [show (ol ++ [l]).map (fun v => [v]) = ol.map (fun v => [v]) ++ [[l]] by simp]
    exact Kd.R_set hr hb1 (by simpa [Kd.raw] using hne) 0 u
  · rcases hat with he | ⟨b, hb, hle⟩
    · exact h.ap k (he ▸ hk)
    · intro hv
      have := Kd.R_lt h.rw k hv
      rw [hb] at hk
      injection hk with hk
      omega
theorem Book.pushW {w w1 : World} {g base tb eo : Nat} {vo vw u : Value} {fr : Int} {ol wl : List Value} {l : Value} (h : Book w g base tb eo vo vw fr ol wl) (hne : eo ≠ tb) (hr : (Kd.raw 1).R eo w1 base Any u (wl.map (fun v => [v]) ++ [[l]])) (hg : w.grownBy w1 vw.ownBlock) (hat : u.ownBlock = vw.ownBlock ∨ ∃ b, u.ownBlock = some b ∧ w.heap.size ≤ b) :
    w1.cell? ⟨g, 1, none⟩ = some vw ∧ w1.frozen? ⟨g, 1, none⟩ = false ∧ Book (w1.setCell ⟨g, 1, none⟩ u) g base tb eo vo u fr ol (wl ++ [l]) ∧ (∀ t, t ≠ eo → t ≠ tb → KT t w (w1.setCell ⟨g, 1, none⟩ u)) := by
  have hb1 := blk_grown h.blk hg (Kd.R_ne h.rw h.blk hne)
  have hw1 := R_other (w1 := w1) rfl h.ro hg (fun k hk he => h.ap k hk he)
  refine ⟨(blk_cell hb1 1).trans rfl, blk_frozen hb1 1, ⟨h.low, (blk_set hb1 1 u).trans rfl, Kd.R_set hw1 hb1 (by simpa [Kd.raw] using hne) 1 u, ?_, fun k hk hv => ?_⟩, fun t h1 h2 => (KT.grown hg (Kd.R_typed h.rw) h1).trans (KT.set hb1 h2 1 u)⟩
  · rw [show (wl ++ [l]).map (fun v => [v]) = wl.map (fun v => [v]) ++ [[l]] by simp]
    exact Kd.R_set hr hb1 (by simpa [Kd.raw] using hne) 1 u
  · rcases hat with he | ⟨b, hb, hle⟩
    · exact h.ap k hk (he ▸ hv)
    · have := Kd.R_lt h.ro k hk
      rw [hb] at hv
      injection hv with hv
      omega
theorem raw_at {w : World} {base g cap eo n : Nat} {l : List Value} (h : (Kd.raw 1).R eo w base Any (.slice (some ⟨g, 0, none⟩) n cap) (l.map (fun v => [v]))) {i : Nat} {u : Value} (hr : l[i]? = some u) : w.cell? ⟨g, i, none⟩ = some u := by
  have hn := (Kd.R_reads' h).1
  have hi := (List.getElem?_eq_some_iff.1 hr).1
  rw [List.length_map] at hn
  obtain ⟨c, hcl, hM, hcc, _⟩ := Kd.R_elem h [] (i : Int) (by omega) (by omega)
  rw [Int.toNat_natCast] at hM hcc
  have e : (l.map (fun v => [v])).getD i [] = [u] := by rw [List.getD_eq_getElem?_getD, List.getElem?_map, hr]; rfl
  rw [e] at hM
  obtain ⟨rfl, _⟩ := hM
  have := hcc 0 u rfl
  have e2 : (Kd.raw 1).sz = 1 := rfl
  rwa [e2, Nat.mul_one] at this
theorem raw_form {w : World} {base eo : Nat} {v : Value} {l : List Value} (h : (Kd.raw 1).R eo w base Any v (l.map (fun v => [v]))) : ∃ A c, v = .slice A l.length c := by
  obtain ⟨A, c, e⟩ := Kd.R_slice h
  rw [List.length_map] at e
  exact ⟨A, c, e⟩
theorem raw_head {w : World} {base eo : Nat} {v : Value} {l : List Value} (h : (Kd.raw 1).R eo w base Any v (l.map (fun v => [v]))) (hp : 0 < l.length) : ∃ g c, v = .slice (some ⟨g, 0, none⟩) l.length c ∧ base ≤ g := by
  obtain ⟨g, c, e, hb, _⟩ := Kd.R_form h (by rw [List.length_map]; exact hp)
  rw [List.length_map] at e
  exact ⟨g, c, e, hb⟩
theorem raw_one (u : Value) (h : u.oneCell' = true) (w : World) (base : Nat) (ok : Nat → Prop) : (Kd.raw 1).M w base ok [u] [u] := by
  refine ⟨rfl, rfl, fun x hx => ?_⟩
  rw [List.mem_singleton] at hx
  subst hx
  exact h
def mkK {α : Type} (y : α) (k : Nat) (xs : List α) : List α := xs.mapIdx (fun j x => if j < k then y else x)
theorem mkK_len {α : Type} (y : α) (k : Nat) (xs : List α) : (mkK y k xs).length = xs.length := List.length_mapIdx
theorem mkK_zero {α : Type} (y : α) (xs : List α) : mkK y 0 xs = xs := by
  apply List.ext_getElem?
  intro j
  simp [mkK, List.getElem?_mapIdx]
theorem mkK_succ {α : Type} (y : α) (k : Nat) (xs : List α) : mkK y (k + 1) xs = (mkK y k xs).set k y := by
  apply List.ext_getElem?
  intro j
  simp only [mkK, List.getElem?_mapIdx, List.getElem?_set, List.length_mapIdx]
  by_cases hjk : k = j
  · subst hjk
    by_cases hj : k < xs.length
    · simp [hj]
    · simp [hj]
  · rw [if_neg hjk]
    by_cases hj : j < xs.length
    · simp only [List.getElem?_eq_getElem hj, Option.map_some]
      have : (j < k + 1) = (j < k) := by
        apply propext
        omega
      simp only [this]
    · simp [hj]
structure Lists {α : Type} (d : Kd α) (w : World) (base te : Nat) (vs : List Value) (cs : List (List α)) : Prop where
  len : vs.length = cs.length
  row : ∀ (j : Nat) (v : Value) (xs : List α), vs[j]? = some v → cs[j]? = some xs → d.R te w base Any v xs
section
variable {α : Type} {d : Kd α} {base te : Nat} {w w1 : World} {vs us : List Value} {cs ds : List (List α)}
theorem Lists.get (h : Lists d w base te vs cs) {j : Nat} (hj : j < cs.length) : ∃ v xs, vs[j]? = some v ∧ cs[j]? = some xs ∧ d.R te w base Any v xs := by
  have h1 := List.getElem?_eq_getElem (l := vs) (i := j) (by rw [h.len]; exact hj)
  have h2 := List.getElem?_eq_getElem hj
  exact ⟨_, _, h1, h2, h.row j _ _ h1 h2⟩
theorem Lists.kept (hE : d.E = []) (h : Lists d w base te vs cs) (hk : ∀ (j : Nat) (v : Value), vs[j]? = some v → ∀ k, v.ownBlock = some k → k < w.heap.size → w1.heap[k]? = w.heap[k]?) : Lists d w1 base te vs cs :=
  ⟨h.len, fun j v xs h1 h2 => R_own_kept hE (h.row j v xs h1 h2) (fun k hb => hk j v h1 k hb (Kd.R_lt (h.row j v xs h1 h2) k hb))⟩
theorem Lists.kt (hE : d.E = []) (h : Lists d w base te vs cs) (hk : KT te w w1) : Lists d w1 base te vs cs := ⟨h.len, fun j v xs h1 h2 => R_kt hE (h.row j v xs h1 h2) hk⟩
theorem Lists.below (h : Lists d w base te vs cs) (hb : Below w.heap.size w w1) : Lists d w1 base te vs cs := ⟨h.len, fun j v xs h1 h2 => Kd.R_below (h.row j v xs h1 h2) hb⟩
theorem Lists.upd (hE : d.E = []) (h : Lists d w base te vs cs) (hp : Parted vs) {i : Nat} {v : Value} {xs' : List α} (hi : vs[i]? = some v) (hg : w.grownBy w1 v.ownBlock) (hn : d.R te w1 base Any v xs') : Lists d w1 base te vs (cs.set i xs') := by
  refine ⟨by rw [List.length_set]; exact h.len, fun j u xs h1 h2 => ?_⟩
  by_cases hij : i = j
  · subst hij
    rw [hi] at h1
    injection h1 with h1
    subst h1
    have hl := (List.getElem?_eq_some_iff.1 hi).1
    rw [List.getElem?_set_self (by rw [← h.len]; exact hl)] at h2
    injection h2 with h2
    subst h2
    exact hn
  · rw [List.getElem?_set_ne hij] at h2
    exact R_other hE (h.row j u xs h1 h2) hg (fun k hk he => hp i j v u hi h1 hij k he hk)
theorem Lists.snoc (h : Lists d w base te vs cs) {v : Value} {xs : List α} (hn : d.R te w base Any v xs) : Lists d w base te (vs ++ [v]) (cs ++ [xs]) := by
  refine ⟨by simp [h.len], fun j u ys h1 h2 => ?_⟩
  by_cases hj : j < vs.length
  · rw [List.getElem?_append_left hj] at h1
    rw [List.getElem?_append_left (by rw [← h.len]; exact hj)] at h2
    exact h.row j u ys h1 h2
  · rw [List.getElem?_append_right (by omega)] at h1
    rw [List.getElem?_append_right (by rw [← h.len]; omega), ← h.len] at h2
    have : j - vs.length = 0 := by
      have := (List.getElem?_eq_some_iff.1 h1).1
      simp at this
      omega
    rw [this] at h1 h2
    injection h1 with h1
    injection h2 with h2
    subst h1 h2
    exact hn
theorem Lists.append (h : Lists d w base te vs cs) (k : Lists d w base te us ds) : Lists d w base te (vs ++ us) (cs ++ ds) := by
  refine ⟨by rw [List.length_append, List.length_append, h.len, k.len], fun j u ys h1 h2 => ?_⟩
  by_cases hj : j < vs.length
  · rw [List.getElem?_append_left hj] at h1
    rw [List.getElem?_append_left (by rw [← h.len]; exact hj)] at h2
    exact h.row j u ys h1 h2
  · rw [List.getElem?_append_right (by omega)] at h1
    rw [List.getElem?_append_right (by rw [← h.len]; omega), ← h.len] at h2
    exact k.row _ u ys h1 h2
theorem Lists.nil : Lists d w base te [] [] := ⟨rfl, fun j v xs h => by simp at h⟩
end
def markC {α : Type} (y : Nat → α) (i k : Nat) (c : List (List α)) : List (List α) := c.mapIdx (fun j xs => if j < i then mkK (y j) xs.length xs else if j = i then mkK (y i) k xs else xs)
section
variable {α : Type} (y : Nat → α) (c : List (List α))
theorem markC_len (i k : Nat) : (markC y i k c).length = c.length := List.length_mapIdx
theorem markC_zero : markC y 0 0 c = c := by
  apply List.ext_getElem?
  intro j
  simp only [markC, List.getElem?_mapIdx, Nat.not_lt_zero, if_false, mkK_zero]
  by_cases hj : j < c.length
  · simp [hj]
  · simp [hj]
theorem markC_at (i k : Nat) {xs : List α} (h : c[i]? = some xs) : (markC y i k c)[i]? = some (mkK (y i) k xs) := by
  simp [markC, List.getElem?_mapIdx, h]
theorem markC_next (i : Nat) {xs : List α} (h : c[i]? = some xs) : markC y i xs.length c = markC y (i + 1) 0 c := by
  apply List.ext_getElem?
  intro j
  simp only [markC, List.getElem?_mapIdx]
  by_cases hj : j < c.length
  · simp only [List.getElem?_eq_getElem hj, Option.map_some]
    by_cases hji : j < i
    · rw [if_pos hji, if_pos (by omega)]
    · by_cases he : j = i
      · subst he
        rw [List.getElem?_eq_getElem hj] at h
        injection h with h
        rw [if_neg hji, if_pos rfl, if_pos (by omega), h]
      · rw [if_neg hji, if_neg he, if_neg (by omega)]
        by_cases he2 : j = i + 1
        · rw [if_pos he2, mkK_zero]
        · rw [if_neg he2]
  · simp [hj]
theorem markC_succ (i k : Nat) {xs : List α} (h : c[i]? = some xs) : markC y i (k + 1) c = (markC y i k c).set i ((mkK (y i) k xs).set k (y i)) := by
  apply List.ext_getElem?
  intro j
  have hi := (List.getElem?_eq_some_iff.1 h).1
  simp only [markC, List.getElem?_mapIdx, List.getElem?_set, List.length_mapIdx]
  by_cases hji : i = j
  · subst hji
    rw [h]
    simp [hi, mkK_succ]
  · rw [if_neg hji]
    by_cases hj : j < c.length
    · simp only [List.getElem?_eq_getElem hj, Option.map_some]
      by_cases hlt : j < i
      · rw [if_pos hlt, if_pos hlt]
      · rw [if_neg hlt, if_neg (by omega), if_neg hlt, if_neg (by omega)]
    · simp [hj]
end
theorem markC_bound {α : Type} (y : Nat → α) (c : List (List α)) (i k B : Nat) (h : ∀ xs ∈ c, xs.length ≤ B) : ∀ xs ∈ markC y i k c, xs.length ≤ B := by
  intro xs hx
  obtain ⟨j, hj, rfl⟩ := List.mem_mapIdx.1 hx
  have := h _ (List.getElem_mem hj)
  split
  · rw [mkK_len]; exact this
  · split
    · rw [mkK_len]; exact this
    · exact this
theorem Lists.lt {α : Type} {d : Kd α} {w : World} {base te : Nat} {vs : List Value} {cs : List (List α)} (h : Lists d w base te vs cs) (j : Nat) (v : Value) (hj : vs[j]? = some v) (k : Nat) (hk : v.ownBlock = some k) : k < w.heap.size ∧ base ≤ k := by
  have hl := (List.getElem?_eq_some_iff.1 hj).1
  have hr := h.row j v _ hj (List.getElem?_eq_getElem (by rw [← h.len]; exact hl))
  exact ⟨Kd.R_lt hr k hk, Kd.R_base hr k hk⟩
structure Doubles {α : Type} (d : Kd α) (w : World) (base te N0 : Nat) (ol wl : List Value) (F : List (List α)) (ol2 wl2 : List Value) (G : List (List α)) : Prop where
  a : Lists d w base te ol F
  b : Lists d w base te wl F
  c : Lists d w base te ol2 G
  e : Lists d w base te wl2 G
  lo : ∀ (j : Nat) (u : Value), ol2[j]? = some u → (∃ v, ol[j]? = some v ∧ u.ownBlock = v.ownBlock) ∨ ∀ k, u.ownBlock = some k → N0 ≤ k
  lw : ∀ (j : Nat) (u : Value), wl2[j]? = some u → ∀ k, u.ownBlock = some k → N0 ≤ k
  old : ∀ (j : Nat) (v : Value), (ol ++ wl)[j]? = some v → ∀ k, v.ownBlock = some k → k < N0
section
variable {α : Type} {d : Kd α} {base te N0 : Nat} {w w1 : World} {ol wl ol2 wl2 : List Value} {F G : List (List α)}
theorem Doubles.kt (hE : d.E = []) (h : Doubles d w base te N0 ol wl F ol2 wl2 G) (hk : KT te w w1) : Doubles d w1 base te N0 ol wl F ol2 wl2 G :=
  ⟨h.a.kt hE hk, h.b.kt hE hk, h.c.kt hE hk, h.e.kt hE hk, h.lo, h.lw, h.old⟩
theorem snoc_at {β : Type} {l : List β} {x u : β} {j : Nat} (h : (l ++ [x])[j]? = some u) : l[j]? = some u ∨ j = l.length ∧ u = x := by
  by_cases hj : j < l.length
  · rw [List.getElem?_append_left hj] at h
    exact Or.inl h
  · rw [List.getElem?_append_right (by omega)] at h
    have : j - l.length = 0 := by
      have := (List.getElem?_eq_some_iff.1 h).1
      simp at this
      omega
    rw [this] at h
    injection h with h
    exact Or.inr ⟨by omega, h.symm⟩
theorem Doubles.step (hE : d.E = []) (hp : Parted (ol ++ wl)) (h : Doubles d w base te N0 ol wl F ol2 wl2 G) {v l' m' : Value} {xs g : List α} (hv : ol[ol2.length]? = some v) (hx : F[ol2.length]? = some xs)
    (hext : Ext w w1 te d.sz v xs.length) (hl : d.R te w1 base Any l' g) (hm : d.R te w1 base Any m' g) (hsl : l'.ownBlock = v.ownBlock ∨ ∀ k, l'.ownBlock = some k → w.heap.size ≤ k) (hsm : ∀ k, m'.ownBlock = some k → w.heap.size ≤ k) (hN : N0 ≤ w.heap.size) :
    Doubles d w1 base te N0 ol wl F (ol2 ++ [l']) (wl2 ++ [m']) (G ++ [g]) := by
  have hil := (List.getElem?_eq_some_iff.1 hv).1
  have hva : (ol ++ wl)[ol2.length]? = some v := by rw [List.getElem?_append_left hil]; exact hv
  have hvo := h.old _ v hva
  have key : ∀ (u : Value) (zs : List α), d.R te w base Any u zs → (∀ k, u.ownBlock = some k → v.ownBlock ≠ some k) → d.R te w1 base Any u zs := fun u zs hr hn => R_other hE hr hext.grown hn
  have hwl : wl2.length = ol2.length := h.e.len.trans h.c.len.symm
  refine ⟨⟨h.a.len, fun j u zs h1 h2 => ?_⟩, ⟨h.b.len, fun j u zs h1 h2 => ?_⟩, Lists.snoc ⟨h.c.len, fun j u zs h1 h2 => ?_⟩ hl, Lists.snoc ⟨h.e.len, fun j u zs h1 h2 => ?_⟩ hm, fun j u h1 => ?_, fun j u h1 k hk => ?_, h.old⟩
  · by_cases hj : j = ol2.length
    · subst hj
      rw [hv] at h1
      injection h1 with h1
      subst h1
      rw [hx] at h2
      injection h2 with h2
      subst h2
      exact R_stay (h.a.row _ v xs hv hx) hext
    · have hjl := (List.getElem?_eq_some_iff.1 h1).1
      exact key u zs (h.a.row j u zs h1 h2) (fun k hk he => hp _ _ v u hva (by rw [List.getElem?_append_left hjl]; exact h1) (fun e => hj e.symm) k he hk)
  · exact key u zs (h.b.row j u zs h1 h2) (fun k hk he => hp _ (ol.length + j) v u hva (by rw [List.getElem?_append_right (by omega), Nat.add_sub_cancel_left]; exact h1) (by omega) k he hk)
  · have hj2 := (List.getElem?_eq_some_iff.1 h1).1
    refine key u zs (h.c.row j u zs h1 h2) (fun k hk he => ?_)
    rcases h.lo j u h1 with ⟨v2, h3, h4⟩ | h3
    · have hjl := (List.getElem?_eq_some_iff.1 h3).1
      exact hp _ _ v v2 hva (by rw [List.getElem?_append_left hjl]; exact h3) (by omega) k he (h4 ▸ hk)
    · have h5 := h3 k hk
      have h6 := hvo k he
      omega
  · refine key u zs (h.e.row j u zs h1 h2) (fun k hk he => ?_)
    have h5 := h.lw j u h1 k hk
    have h6 := hvo k he
    omega
  · rcases snoc_at h1 with h1 | ⟨rfl, rfl⟩
    · exact h.lo j u h1
    · rcases hsl with hsl | hsl
      · exact Or.inl ⟨v, hv, hsl⟩
      · exact Or.inr (fun k hk => Nat.le_trans hN (hsl k hk))
  · rcases snoc_at h1 with h1 | ⟨rfl, rfl⟩
    · exact h.lw j u h1 k hk
    · exact Nat.le_trans hN (hsm k hk)
end
section
variable {P : Program} {ops : Array Oper} {rest : List Oper} {o : Oper} {a : Act} {Q : Exit → Act → World → Prop} {Kc : Act → World → Prop} {α : Type}
theorem stays_at {W w1 : World} {e size n : Nat} {v v1 : Value} (h : Stays W w1 e size v n v1) : v1.ownBlock = v.ownBlock ∨ ∃ b, v1.ownBlock = some b ∧ W.heap.size ≤ b := by
  rcases h with ⟨p, cap, rfl, rfl, _⟩ | ⟨_, h⟩
  · exact Or.inl rfl
  · exact Or.inr h
theorem R_append_beside (d : Kd α) {W : World} (base : Nat) (hgd : o.guard = none) (s x : Operand) (t e : TypeId) (z : Value) (bytes : Nat)
    (ho : o.op = .call { callee := .builtin .append, args := #[s, x], argTypes := #[t, t] })
    (ht : P.underlying t = some (.slice e)) (hinfo : (P.info? e).map (fun i => (i.zero, i.size, i.bytes)) = some (some z, d.sz, bytes)) (hz : z.cells.size = d.sz) (hs0 : 0 < d.sz) (hb0 : 0 < bytes)
    (v : Value) (xs : List α) (p : α) (cs : List Value) (hs : a.eval s = v) (hx : a.eval x = .slice (some ⟨W.heap.size, 0, none⟩) 1 1) (hp : d.M W base (fun _ => False) p cs)
    (HO : d.R e W base Any v xs) (hbase : base ≤ W.heap.size) (hl : (xs.length + 1) * bytes ≤ 140737488355328)
    (h : ∀ v1 w1, d.R e w1 base Any v1 (xs ++ [p]) → W.grownBy w1 v.ownBlock → Stays W w1 e d.sz v xs.length v1 → wpList P ops Q rest (a.put o.dst v1) w1) :
    wpList P ops Q (o :: rest) a (W.alloc (.cells cs.toArray e)) := by
  obtain ⟨h0, inner, hown, hr⟩ := HO
  refine append_beside base hgd s x t e z d.sz bytes ho ht hinfo hz hs0 hb0 v xs.length inner cs hs hx (d.K_len (d.K_of_M hp)) (d.K_one (d.K_of_M hp)) hown hbase hl ?_
  intro v1 w1 hown1 hg1 hst
  exact h v1 w1 (Kd.R_appended h0 hr hp (fun _ hk => hk.elim) (fun _ _ => trivial) hown1 hg1 (stays_at hst)) hg1 hst
end
theorem ext_other {W w w1 : World} {e size n : Nat} {v : Value} {row : Option Nat} (hx : Ext W w e size v n) (hg : w.grownBy w1 row) (hrow : ∀ k, row = some k → W.heap.size ≤ k) : Ext W w1 e size v n := by
  have hsz := hx.grown.size
  refine ⟨⟨hg.os.trans hx.grown.os, hg.tape.trans hx.grown.tape, hg.output.trans hx.grown.output, Nat.le_trans hsz hg.size, fun k hk hne => ?_⟩, fun b inner hI => ?_⟩
  · refine (hg.block k (by omega) (fun he => ?_)).trans (hx.grown.block k hk hne)
    have := hrow k he.symm
    omega
  · refine (hx.stays b inner hI).kept hg ?_
    cases hv : v.ownBlock with
    | none => exact Or.inl rfl
    | some k =>
      right
      intro he
      have h1 := (hI.lt k hv).2
      have h2 := hrow k he.symm
      omega
structure Pair2 {α : Type} (d : Kd α) (W w : World) (base te : Nat) (v : Value) (n : Nat) (l' m' : Value) (gl gm : List α) : Prop where
  ext : Ext W w te d.sz v n
  l : d.R te w base Any l' gl
  m : d.R te w base Any m' gm
  side : Side W.heap.size v n l' gl.length
  sm : ∀ k, m'.ownBlock = some k → W.heap.size ≤ k
  ap : ∀ k, l'.ownBlock = some k → m'.ownBlock ≠ some k
section
variable {α : Type} {d : Kd α} {W w w1 : World} {base te n : Nat} {v l' m' l1 m1 : Value} {gl gm : List α} {p : α}
theorem Pair2.stepL (hE : d.E = []) (h : Pair2 d W w base te v n l' m' gl gm) (hr : d.R te w1 base Any l1 (gl ++ [p])) (hg : w.grownBy w1 l'.ownBlock) (hst : Stays w w1 te d.sz l' gl.length l1) : Pair2 d W w1 base te v n l1 m' (gl ++ [p]) gm := by
  obtain ⟨h1, h2⟩ := h.ext.step h.side hg hst
  refine ⟨h1, hr, R_other hE h.m hg (fun k hk he => h.ap k he hk), by rw [List.length_append]; exact h2, h.sm, fun k hk => ?_⟩
  rcases stays_at hst with he | ⟨b, hb, hle⟩
  · exact h.ap k (he ▸ hk)
  · intro hm
    have := Kd.R_lt h.m k hm
    rw [hb] at hk
    injection hk with hk
    omega
theorem Pair2.stepM (hE : d.E = []) (h : Pair2 d W w base te v n l' m' gl gm) (hr : d.R te w1 base Any m1 (gm ++ [p])) (hg : w.grownBy w1 m'.ownBlock) (hat : m1.ownBlock = m'.ownBlock ∨ ∃ b, m1.ownBlock = some b ∧ w.heap.size ≤ b) : Pair2 d W w1 base te v n l' m1 gl (gm ++ [p]) := by
  have hsz := h.ext.grown.size
  refine ⟨ext_other h.ext hg h.sm, R_other hE h.l hg (fun k hk he => h.ap k hk he), hr, h.side, fun k hk => ?_, fun k hk hm => ?_⟩
  · rcases hat with he | ⟨b, hb, hle⟩
    · exact h.sm k (he ▸ hk)
    · rw [hb] at hk
      injection hk with hk
      omega
  · rcases hat with he | ⟨b, hb, hle⟩
    · exact h.ap k hk (he ▸ hm)
    · have := Kd.R_lt h.l k hk
      rw [hb] at hm
      injection hm with hm
      omega
theorem Pair2.sideL (h : Pair2 d W w base te v n l' m' gl gm) : l'.ownBlock = v.ownBlock ∨ ∀ k, l'.ownBlock = some k → W.heap.size ≤ k := by
  rcases h.side with ⟨p, cap, rfl, rfl, _⟩ | h2
  · exact Or.inl rfl
  · exact Or.inr h2
end
theorem Book.setF {w : World} {g base tb eo : Nat} {vo vw : Value} {fr : Int} {ol wl : List Value} (h : Book w g base tb eo vo vw fr ol wl) (hne : eo ≠ tb) (n : Int) : Book (w.setCell ⟨g, 2, none⟩ (.int .i64 n)) g base tb eo vo vw n ol wl :=
  ⟨h.low, (blk_set h.blk 2 _).trans rfl, Kd.R_set h.ro h.blk (by simpa [Kd.raw] using hne) 2 _, Kd.R_set h.rw h.blk (by simpa [Kd.raw] using hne) 2 _, h.ap⟩
theorem markO {α : Type} {d : Kd α} {base te : Nat} {w w1 : World} {ol wl : List Value} {cs : List (List α)} {y : Nat → α} {i k : Nat} {v : Value} {xs : List α} (hE : d.E = []) (hp : Parted (ol ++ wl)) (hlen : ol.length = cs.length) (h : Lists d w base te (ol ++ wl) (markC y i k cs ++ markC y i k cs)) (hv : ol[i]? = some v) (hx : cs[i]? = some xs) (hg : w.grownBy w1 v.ownBlock) (hn : d.R te w1 base Any v ((mkK (y i) k xs).set k (y i))) :
    Lists d w1 base te (ol ++ wl) (markC y i (k + 1) cs ++ markC y i k cs) := by
  have hil := (List.getElem?_eq_some_iff.1 hv).1
  have := h.upd hE hp (i := i) (by rw [List.getElem?_append_left hil]; exact hv) hg hn
  rw [List.set_append_left _ _ (by rw [markC_len]; omega), ← markC_succ y cs i k hx] at this
  exact this
theorem markW {α : Type} {d : Kd α} {base te : Nat} {w w1 : World} {ol wl : List Value} {cs : List (List α)} {y : Nat → α} {i k : Nat} {v : Value} {xs : List α} (hE : d.E = []) (hp : Parted (ol ++ wl)) (hlen : ol.length = cs.length) (h : Lists d w base te (ol ++ wl) (markC y i (k + 1) cs ++ markC y i k cs)) (hv : wl[i]? = some v) (hx : cs[i]? = some xs) (hg : w.grownBy w1 v.ownBlock) (hn : d.R te w1 base Any v ((mkK (y i) k xs).set k (y i))) :
    Lists d w1 base te (ol ++ wl) (markC y i (k + 1) cs ++ markC y i (k + 1) cs) := by
  have := h.upd hE hp (i := ol.length + i) (by rw [List.getElem?_append_right (by omega), Nat.add_sub_cancel_left]; exact hv) hg hn
  rw [hlen, List.set_append_right _ _ (by rw [markC_len]; omega), markC_len, Nat.add_sub_cancel_left, ← markC_succ y cs i k hx] at this
  exact this
theorem Lists.left {α : Type} {d : Kd α} {base te : Nat} {w : World} {us vs : List Value} {cs ds : List (List α)} (h : Lists d w base te (us ++ vs) (cs ++ ds)) (hl : us.length = cs.length) : Lists d w base te us cs := by
  refine ⟨hl, fun j v xs h1 h2 => h.row j v xs ?_ ?_⟩
  · rw [List.getElem?_append_left (List.getElem?_eq_some_iff.1 h1).1]; exact h1
  · rw [List.getElem?_append_left (List.getElem?_eq_some_iff.1 h2).1]; exact h2
theorem Lists.right {α : Type} {d : Kd α} {base te : Nat} {w : World} {us vs : List Value} {cs ds : List (List α)} (h : Lists d w base te (us ++ vs) (cs ++ ds)) (hl : us.length = cs.length) : Lists d w base te vs ds := by
  have hl2 := h.len
  rw [List.length_append, List.length_append] at hl2
  refine ⟨by omega, fun j v xs h1 h2 => h.row (us.length + j) v xs ?_ ?_⟩
  · rw [List.getElem?_append_right (by omega), Nat.add_sub_cancel_left]; exact h1
  · rw [List.getElem?_append_right (by omega), hl, Nat.add_sub_cancel_left]; exact h2
end Go.Proofs.Ytokbonceeglciaa.Bk
end
section
namespace Go.Proofs.Ytokbonceeglciaa.Bk
open Go.RowKit Go.Proofs.YtokbonceeglciaaW.PrintWords Go.Proofs.YtokbonceeglciaaW.PrintLast Go.Proofs.YtokbonceeglciaaW.PrintMore Go.Proofs.Ytokbonceeglciaa.Print Go.Proofs.Ytokbonceeglciaa.Given
set_option linter.unusedVariables false
set_option linter.unusedSimpArgs false
def reps (z : List Value) : Nat → List Value
  | 0 => []
  | n + 1 => reps z n ++ z
theorem reps_len (z : List Value) : ∀ n, (reps z n).length = n * z.length
  | 0 => by simp [reps]
  | n + 1 => by rw [reps, List.length_append, reps_len z n, Nat.add_mul, Nat.one_mul]
theorem reps_front (z : List Value) : ∀ n, reps z (n + 1) = z ++ reps z n
  | 0 => by simp [reps]
  | n + 1 => by
    show reps z (n + 1) ++ z = z ++ (reps z n ++ z)
    rw [reps_front z n, List.append_assoc]
theorem made_reps (z : List Value) (hz : 0 < z.length) : ∀ n, madeCells z.toArray (n * z.length) = (reps z n).toArray
  | 0 => by simp [madeCells, reps]
  | n + 1 => by
    have ih := made_reps z hz n
    apply Array.toList_inj.1
    have e := congrArg Array.toList ih
    simp only [madeCells, Array.toList_map, Array.toList_range] at e ⊢
    rw [Nat.add_mul, Nat.one_mul, List.range_add, List.map_append, e, reps]
    congr 1
    apply List.ext_getElem
    · simp
    · intro i h1 h2
      have hi : i < z.length := by simpa using h1
      simp [Nat.mul_add_mod_self_right, Nat.mod_eq_of_lt hi, hi]
def zero43 : List Value := [.int .i64 0, .bool false, .int .i64 0, .int .i64 0, .slice none 0 0]
def tail43 : List Value := [.int .i64 (-99), .bool false, .int .i64 0, .int .i64 0, .slice none 0 0]
def zero38 : List Value := [.int .i64 0, .slice none 0 0]
def tail38 : List Value := [.int .i64 (-99), .slice none 0 0]
def tailW : S38 := ⟨-99, []⟩
def tailS : S43 := ⟨-99, false, ⟨0, 0, []⟩⟩
theorem tailS_K (w : World) : k43.K w tailS tail43 := k43_mk w tailS (A4 := none) (c4 := 0) (Nat.le_refl _) (Kd.C_nil _ _)
theorem info36 : (Try.prog.info? 36).map (fun i => (i.zero, i.size, i.bytes)) = some (some (.slice none 0 0), 1, 24) := by kernel_rfl
theorem info38 : (Try.prog.info? 38).map (fun i => (i.zero, i.size, i.bytes)) = some (some (.agg #[.int .i64 0, .slice none 0 0]), 2, 32) := by kernel_rfl
theorem make38 (w : World) (n : Nat) (hn : n ≤ 1000000) : (Instr.makeSlice 22 (.int .i64 (n : Int)) (.int .i64 (n : Int))).run Try.prog w = .ok (.slice (some ⟨w.heap.size, 0, none⟩) n n) (w.alloc (.cells (reps zero38 n).toArray 38)) := by
  obtain ⟨i, hi, hz, hs, hb⟩ := info_parts info38
  have h := run_make (P := Try.prog) w 22 38 i _ Try.underlying22 hi hz .i64 .i64 (n : Int) (n : Int) (by omega) (Int.le_refl _) (by rw [hb]; omega) (by omega)
  rw [Int.toNat_natCast, hs] at h
  rw [h, ← made_reps zero38 (by decide) n]
  rfl
theorem make43 (w : World) (n : Nat) (hn : n ≤ 1000000) : (Instr.makeSlice 36 (.int .i64 (n : Int)) (.int .i64 (n : Int))).run Try.prog w = .ok (.slice (some ⟨w.heap.size, 0, none⟩) n n) (w.alloc (.cells (reps zero43 n).toArray 43)) := by
  obtain ⟨i, hi, hz, hs, hb⟩ := info_parts info43
  have h := run_make (P := Try.prog) w 36 43 i _ Try.underlying36 hi hz .i64 .i64 (n : Int) (n : Int) (by omega) (Int.le_refl _) (by rw [hb]; omega) (by omega)
  rw [Int.toNat_natCast, hs] at h
  rw [h, ← made_reps zero43 (by decide) n]
  rfl
def ArmsBlk (W0 w : World) (g : Nat) (xs : List S43) : Prop := ∃ cs : List Value, w.heap[g]? = some (.cells (cs ++ tail43).toArray 43 (0, 0)) ∧ cs.length = xs.length * 5 ∧ ∀ (t : Nat) (a : S43), xs[t]? = some a → k43.K W0 a (seg cs 5 t)
theorem ArmsBlk.kt {W0 w w1 : World} {g : Nat} {xs : List S43} (h : ArmsBlk W0 w g xs) (hk : KT 43 w w1) : ArmsBlk W0 w1 g xs := by
  obtain ⟨cs, h1, h2, h3⟩ := h
  exact ⟨cs, hk g _ h1, h2, h3⟩
theorem ArmsBlk.C {W0 w : World} {g : Nat} {xs : List S43} (h : ArmsBlk W0 w g xs) (hb : Below W0.heap.size W0 w) (hm : xs.length ≤ 9223372036854775807) : Kd.C k43 w (some ⟨g, 0, none⟩) xs.length xs := by
  obtain ⟨cs, h1, h2, h3⟩ := h
  refine blk_C h1 hm fun j x hx => ?_
  have hj := (List.getElem?_eq_some_iff.1 hx).1
  rw [show k43.sz = 5 from rfl, seg_left (by rw [h2]; omega)]
  exact k43.K_below hb (h3 j x hx)
theorem ArmsBlk.C1 {W0 w : World} {g : Nat} {xs : List S43} (h : ArmsBlk W0 w g xs) (hb : Below W0.heap.size W0 w) (hm : xs.length ≤ 9223372036854775806) : Kd.C k43 w (some ⟨g, 0, none⟩) (xs ++ [tailS]).length (xs ++ [tailS]) := by
  obtain ⟨cs, h1, h2, h3⟩ := h
  refine blk_C h1 (by simp; omega) fun j x hx => ?_
  rw [show k43.sz = 5 from rfl]
  by_cases hj : j < xs.length
  · rw [List.getElem?_append_left hj] at hx
    rw [seg_left (by rw [h2]; omega)]
    exact k43.K_below hb (h3 j x hx)
  · have hjl := (List.getElem?_eq_some_iff.1 hx).1
    have : j = xs.length := by simp at hjl; omega
    subst this
    rw [List.getElem?_append_right (Nat.le_refl _), Nat.sub_self] at hx
    injection hx with hx
    subst hx
    rw [seg_right h2 rfl]
    exact tailS_K w
def rowA (x : S38) (g : Nat) : List Value := [.int .i64 x.f0, .slice (some ⟨g, 0, none⟩) x.f1.length (x.f1.length + 1)]
def rowM (x : S38) (g : Nat) : List Value := [.slice (some ⟨g, 0, none⟩) (x.f1.length + 1) (x.f1.length + 1)]
def catA : List S38 → List Nat → List Value
  | x :: l, g :: gs => rowA x g ++ catA l gs
  | _, _ => []
def rowsM : List S38 → List Nat → List (List Value)
  | x :: l, g :: gs => rowM x g :: rowsM l gs
  | _, _ => []
theorem catA_len : ∀ (l : List S38) (gs : List Nat), gs.length = l.length → (catA l gs).length = l.length * 2
  | [], [], _ => rfl
  | [], _ :: _, h => by simp at h
  | _ :: _, [], h => by simp at h
  | x :: l, g :: gs, h => by
    rw [catA, List.length_append, catA_len l gs (by simpa using h)]
    simp [rowA]
    omega
theorem rowsM_len : ∀ (l : List S38) (gs : List Nat), gs.length = l.length → (rowsM l gs).length = l.length
  | [], [], _ => rfl
  | [], _ :: _, h => by simp at h
  | _ :: _, [], h => by simp at h
  | x :: l, g :: gs, h => by
    rw [rowsM, List.length_cons, rowsM_len l gs (by simpa using h)]
    rfl
theorem catA_snoc (y : S38) (b : Nat) : ∀ (l : List S38) (gs : List Nat), gs.length = l.length → catA (l ++ [y]) (gs ++ [b]) = catA l gs ++ rowA y b
  | [], [], _ => by simp [catA]
  | [], _ :: _, h => by simp at h
  | _ :: _, [], h => by simp at h
  | x :: l, g :: gs, h => by
    rw [List.cons_append, List.cons_append, catA, catA, catA_snoc y b l gs (by simpa using h), List.append_assoc]
theorem rowsM_snoc (y : S38) (b : Nat) : ∀ (l : List S38) (gs : List Nat), gs.length = l.length → rowsM (l ++ [y]) (gs ++ [b]) = rowsM l gs ++ [rowM y b]
  | [], [], _ => by simp [rowsM]
  | [], _ :: _, h => by simp at h
  | _ :: _, [], h => by simp at h
  | x :: l, g :: gs, h => by
    rw [List.cons_append, List.cons_append, rowsM, rowsM, rowsM_snoc y b l gs (by simpa using h), List.cons_append]
theorem catA_seg : ∀ (l : List S38) (gs : List Nat) (j : Nat) (x : S38) (g : Nat), gs.length = l.length → l[j]? = some x → gs[j]? = some g → seg (catA l gs) 2 j = rowA x g
  | [], _, j, x, g, _, hx, _ => by simp at hx
  | _ :: _, [], j, x, g, _, _, hg => by simp at hg
  | y :: l, b :: gs, 0, x, g, h, hx, hg => by
    simp at hx hg
    subst hx
    subst hg
    rw [catA]
    exact seg_last (cs := []) (ds := rowA y b) (es := catA l gs) (s := 2) (j := 0) (by simp) rfl
  | y :: l, b :: gs, j + 1, x, g, h, hx, hg => by
    have ih := catA_seg l gs j x g (by simpa using h) (by simpa using hx) (by simpa using hg)
    rw [catA]
    unfold seg at ih ⊢
    rw [show (j + 1) * 2 = 2 + j * 2 by omega, show rowA y b ++ catA l gs = rowA y b ++ catA l gs from rfl, ← List.drop_drop]
    exact ih
theorem rowsM_at : ∀ (l : List S38) (gs : List Nat) (j : Nat) (x : S38) (g : Nat), gs.length = l.length → l[j]? = some x → gs[j]? = some g → (rowsM l gs)[j]? = some (rowM x g)
  | [], _, j, x, g, _, hx, _ => by simp at hx
  | _ :: _, [], j, x, g, _, _, hg => by simp at hg
  | y :: l, b :: gs, 0, x, g, h, hx, hg => by
    simp at hx hg
    subst hx
    subst hg
    rfl
  | y :: l, b :: gs, j + 1, x, g, h, hx, hg => by
    rw [rowsM]
    exact rowsM_at l gs j x g (by simpa using h) (by simpa using hx) (by simpa using hg)
structure Lent (W0 w : World) (base : Nat) (l : List S38) (F : Nat → List S43) (gs : List Nat) (ga : Nat) (rest : List Value) (vr : Value) : Prop where
  len : gs.length = l.length
  low : base ≤ ga
  lows : ∀ g ∈ gs, base ≤ g
  nod : gs.Nodup
  blk : w.heap[ga]? = some (.cells (catA l gs ++ rest).toArray 38 (0, 0))
  rows : (Kd.raw 1).R 36 w base Any vr (rowsM l gs)
  arms : ∀ (j g : Nat), gs[j]? = some g → ArmsBlk W0 w g (F j)
  flen : ∀ (j : Nat) (x : S38), l[j]? = some x → (F j).length = x.f1.length
theorem Lent.kt {W0 w w1 : World} {base ga : Nat} {l : List S38} {F : Nat → List S43} {gs : List Nat} {rest : List Value} {vr : Value} (h : Lent W0 w base l F gs ga rest vr) (h1 : KT 38 w w1) (h2 : KT 36 w w1) (h3 : KT 43 w w1) : Lent W0 w1 base l F gs ga rest vr :=
  ⟨h.len, h.low, h.lows, h.nod, h1 _ _ h.blk, R_kt rfl h.rows h2, fun j g hg => (h.arms j g hg).kt h3, h.flen⟩
theorem Lent.below {W0 w w1 : World} {base ga : Nat} {l : List S38} {F : Nat → List S43} {gs : List Nat} {rest : List Value} {vr : Value} (h : Lent W0 w base l F gs ga rest vr) (hb : Below w.heap.size w w1) : Lent W0 w1 base l F gs ga rest vr := h.kt (KT.below hb) (KT.below hb) (KT.below hb)
theorem Lent.lt {W0 w : World} {base ga : Nat} {l : List S38} {F : Nat → List S43} {gs : List Nat} {rest : List Value} {vr : Value} (h : Lent W0 w base l F gs ga rest vr) : ∀ g ∈ gs, g < w.heap.size := by
  intro g hg
  obtain ⟨j, hj⟩ := List.mem_iff_getElem?.1 hg
  obtain ⟨cs, hc, _⟩ := h.arms j g hj
  exact blk_lt hc
def withF (l : List S38) (F : Nat → List S43) : List S38 := l.mapIdx fun j x => ⟨x.f0, F j⟩
theorem withF_len (l : List S38) (F : Nat → List S43) : (withF l F).length = l.length := List.length_mapIdx
theorem withF_at {l : List S38} {F : Nat → List S43} {j : Nat} {x : S38} (h : (withF l F)[j]? = some x) : ∃ y, l[j]? = some y ∧ x = ⟨y.f0, F j⟩ := by
  unfold withF at h
  rw [List.getElem?_mapIdx] at h
  obtain ⟨y, hy, rfl⟩ := Option.map_eq_some_iff.1 h
  exact ⟨y, hy, rfl⟩
theorem Lent.segK {W0 w : World} {base ga : Nat} {l : List S38} {F : Nat → List S43} {gs : List Nat} {rest : List Value} {vr : Value} (h : Lent W0 w base l F gs ga rest vr) (hb : Below W0.heap.size W0 w) (hm : ∀ x ∈ l, x.f1.length ≤ 1000000) {j : Nat} {x : S38} (hx : (withF l F)[j]? = some x) : k38.K w x (seg (catA l gs ++ rest) 2 j) := by
  obtain ⟨y, hy, rfl⟩ := withF_at hx
  have hj := (List.getElem?_eq_some_iff.1 hy).1
  obtain ⟨g, hg⟩ : ∃ g, gs[j]? = some g := ⟨_, List.getElem?_eq_getElem (by rw [h.len]; exact hj)⟩
  rw [seg_left (by rw [catA_len l gs h.len]; omega), catA_seg l gs j y g h.len hy hg]
  have hl := h.flen j y hy
  have hyl := hm y (List.mem_of_getElem? hy)
  have hC := (h.arms j g hg).C hb (by omega)
  have := k38_mk w ⟨y.f0, F j⟩ (A1 := some ⟨g, 0, none⟩) (c1 := y.f1.length + 1) (by show (F j).length ≤ _; omega) hC
  rw [show (⟨y.f0, F j⟩ : S38).f1.length = y.f1.length from hl] at this
  exact this
theorem Lent.C {W0 w : World} {base ga : Nat} {l : List S38} {F : Nat → List S43} {gs : List Nat} {rest : List Value} {vr : Value} (h : Lent W0 w base l F gs ga rest vr) (hb : Below W0.heap.size W0 w) (hm : ∀ x ∈ l, x.f1.length ≤ 1000000) (hl : l.length ≤ 1000000) : Kd.C k38 w (some ⟨ga, 0, none⟩) (withF l F).length (withF l F) :=
  blk_C h.blk (by rw [withF_len]; omega) fun j x hx => h.segK hb hm hx
theorem Lent.C1 {W0 w : World} {base ga : Nat} {l : List S38} {F : Nat → List S43} {gs : List Nat} {vr : Value} (h : Lent W0 w base l F gs ga tail38 vr) (hb : Below W0.heap.size W0 w) (hm : ∀ x ∈ l, x.f1.length ≤ 1000000) (hl : l.length ≤ 1000000) : Kd.C k38 w (some ⟨ga, 0, none⟩) (withF l F ++ [tailW]).length (withF l F ++ [tailW]) := by
  refine blk_C h.blk (by simp [withF_len]; omega) fun j x hx => ?_
  rw [show k38.sz = 2 from rfl]
  by_cases hj : j < (withF l F).length
  · rw [List.getElem?_append_left hj] at hx
    exact h.segK hb hm hx
  · have hjl := (List.getElem?_eq_some_iff.1 hx).1
    have : j = (withF l F).length := by simp at hjl; omega
    subst this
    rw [List.getElem?_append_right (Nat.le_refl _), Nat.sub_self] at hx
    injection hx with hx
    subst hx
    rw [seg_right (cs := catA l gs) (ds := tail38) (s := 2) (j := (withF l F).length) (by rw [catA_len l gs h.len, withF_len]) rfl]
    exact k38_mk w tailW (A1 := none) (c1 := 0) (Nat.le_refl _) (Kd.C_nil _ _)
def marked (l : List S38) (F : Nat → List S43) : List (List S43) := l.mapIdx fun j _ => F j ++ [tailS]
theorem marked_len (l : List S38) (F : Nat → List S43) : (marked l F).length = l.length := List.length_mapIdx
theorem Lent.CM {W0 w : World} {base ga n c : Nat} {A : Option Addr} {l : List S38} {F : Nat → List S43} {gs : List Nat} {rest : List Value} (h : Lent W0 w base l F gs ga rest (.slice A n c)) (hb : Below W0.heap.size W0 w) (hm : ∀ x ∈ l, x.f1.length ≤ 1000000) (hl : l.length ≤ 1000000) : n = l.length ∧ n ≤ c ∧ Kd.C (Kd.slice 43 k43) w A (marked l F).length (marked l F) := by
  obtain ⟨hn, hc, hC⟩ := Kd.R_reads' h.rows
  rw [rowsM_len l gs h.len] at hn
  refine ⟨hn, hc, ?_⟩
  obtain ⟨_, _, h3⟩ := hC
  refine ⟨rfl, by rw [marked_len]; omega, fun hp => ?_⟩
  rw [marked_len] at hp
  rw [rowsM_len l gs h.len] at h3
  obtain ⟨ad, rfl, hcell⟩ := h3 hp
  refine ⟨ad, rfl, fun j p hj => ?_⟩
  unfold marked at hj
  rw [List.getElem?_mapIdx] at hj
  obtain ⟨y, hy, rfl⟩ := Option.map_eq_some_iff.1 hj
  have hjl := (List.getElem?_eq_some_iff.1 hy).1
  obtain ⟨g, hg⟩ : ∃ g, gs[j]? = some g := ⟨_, List.getElem?_eq_getElem (by rw [h.len]; exact hjl)⟩
  obtain ⟨c', hcl, ⟨rfl, _⟩, hcc⟩ := hcell j _ (rowsM_at l gs j y g h.len hy hg)
  have hlen := h.flen j y hy
  have hyl := hm y (List.mem_of_getElem? hy)
  refine ⟨_, rfl, ⟨some ⟨g, 0, none⟩, y.f1.length + 1, ?_, by simp; omega, (h.arms j g hg).C1 hb (by omega)⟩, hcc⟩
  show [Value.slice (some ⟨g, 0, none⟩) (y.f1.length + 1) (y.f1.length + 1)] = _
  rw [List.length_append, hlen]
  rfl
end Go.Proofs.Ytokbonceeglciaa.Bk
end
