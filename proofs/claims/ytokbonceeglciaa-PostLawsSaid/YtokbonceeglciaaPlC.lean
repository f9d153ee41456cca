/- Lemmas for the claim (what no proof of it names is left out). -/
import Derived.Test.YtokbonceeglciaaPlA
import Derived.Test.YtokbonceeglciaaPlB
import Derived.Laws.MakeOwn
import Derived.Laws.CopyOwn
import Derived.Lib.SlBuf
import Derived.ArgAppend
import Derived.Maps.AppendAt
import Derived.Laws.OwnMore
import Derived.BigQuiet
import Derived.Handy
import Derived.Deep.Slices
import Derived.ChangeArms
import Derived.DataReads
import Derived.SizedLaws
import Derived.Below
import Derived.Deep.DeepCutAuto
import Derived.Deep.CutBlock
import Derived.Deep.RegionHeld3
section
namespace Go.Proofs.Ytokbonceeglciaa.Print
open Go.Proofs.Ytokbonceeglciaa.Given
open Go.RowKit Go.Proofs.YtokbonceeglciaaW.PrintWords Go.Proofs.YtokbonceeglciaaW.PrintLast Go.Proofs.YtokbonceeglciaaW.PrintMore
attribute [local go_sem] max2_int min2_int max_two min_two max_three min_three max_four min_four
set_option linter.unusedVariables false
set_option linter.unusedSimpArgs false
def IsS28 (w0 W : World) (g : Nat) (f0 : List (List (S47))) (f1 : List (List (S47))) (f2 : Int) : Prop := ∃ A0 c0, ∃ A1 c1, W.heap[g]? = some (.cells #[.slice A0 f0.length c0, .slice A1 f1.length c1, .int .i64 f2] 28 (0, 0)) ∧ w0.heap.size ≤ g ∧ Kd.C (Kd.slice 47 k47) w0 A0 f0.length f0 ∧ Kd.C (Kd.slice 47 k47) w0 A1 f1.length f1
theorem IsS28.grown {w0 W : World} {g : Nat} {f0 : List (List (S47))} {f1 : List (List (S47))} {f2 : Int} {W1 : World} {row : Option Nat} (h : IsS28 w0 W g f0 f1 f2) (hw : W.grownBy W1 row) (hne : some g ≠ row) : IsS28 w0 W1 g f0 f1 f2 := by
  obtain ⟨A0, c0, A1, c1, hb, hg, hr0, hr1⟩ := h
  exact ⟨A0, c0, A1, c1, blk_grown hb hw hne, hg, hr0, hr1⟩
theorem IsS28.kept {w0 W : World} {g : Nat} {f0 : List (List (S47))} {f1 : List (List (S47))} {f2 : Int} {W1 : World} {S : Nat → Prop} (h : IsS28 w0 W g f0 f1 f2) (hk : Kept W W1 S) (hne : ¬ S g) : IsS28 w0 W1 g f0 f1 f2 := by
  obtain ⟨A0, c0, A1, c1, hb, hg, hr0, hr1⟩ := h
  exact ⟨A0, c0, A1, c1, blk_kept hb hk hne, hg, hr0, hr1⟩
theorem IsS28.below {w0 W : World} {g : Nat} {f0 : List (List (S47))} {f1 : List (List (S47))} {f2 : Int} {W1 : World} (h : IsS28 w0 W g f0 f1 f2) (hw : Below W.heap.size W W1) : IsS28 w0 W1 g f0 f1 f2 := h.grown (grown_of_below hw none) (by simp)
theorem IsS28.alloc {w0 W : World} {g : Nat} {f0 : List (List (S47))} {f1 : List (List (S47))} {f2 : Int} (h : IsS28 w0 W g f0 f1 f2) (o : Obj) : IsS28 w0 (W.alloc o) g f0 f1 f2 := h.below (below_alloc (Below.refl _ _) o)
theorem IsS28.drewN {w0 W : World} {g : Nat} {f0 : List (List (S47))} {f1 : List (List (S47))} {f2 : Int} (h : IsS28 w0 W g f0 f1 f2) (m : Nat) : IsS28 w0 (W.drewN m) g f0 f1 f2 := h
theorem IsS28.drew {w0 W : World} {g : Nat} {f0 : List (List (S47))} {f1 : List (List (S47))} {f2 : Int} (h : IsS28 w0 W g f0 f1 f2) : IsS28 w0 W.drew g f0 f1 f2 := h
theorem IsS28.apart {w0 W : World} {g : Nat} {f0 : List (List (S47))} {f1 : List (List (S47))} {f2 : Int} {α : Type} {d : Kd α} {e : Nat} {base : Nat} {ok : Nat → Prop} {v : Value} {xs : List α} (h : IsS28 w0 W g f0 f1 f2) (ho : d.R e W base ok v xs) (ht : ∀ q, q ∈ e :: d.E → q ≠ 28) : d.R e W base (fun k => ok k ∧ k ≠ g) v xs := by
  obtain ⟨A0, c0, A1, c1, hb, hg, hr0, hr1⟩ := h
  exact Kd.R_types ho hb ht
theorem IsS28.lt {w0 W : World} {g : Nat} {f0 : List (List (S47))} {f1 : List (List (S47))} {f2 : Int} (h : IsS28 w0 W g f0 f1 f2) : g < W.heap.size := by
  obtain ⟨A0, c0, A1, c1, hb, hg, hr0, hr1⟩ := h
  exact blk_lt hb
theorem IsS28.new (w0 W : World) (A0 : Option Addr) (c0 : Nat) (A1 : Option Addr) (c1 : Nat) (f0 : List (List (S47))) (f1 : List (List (S47))) (f2 : Int) (hB : Below w0.heap.size w0 W) (hr0 : Kd.C (Kd.slice 47 k47) w0 A0 f0.length f0) (hr1 : Kd.C (Kd.slice 47 k47) w0 A1 f1.length f1) : IsS28 w0 (W.alloc (.cells #[.slice A0 f0.length c0, .slice A1 f1.length c1, .int .i64 f2] 28)) W.heap.size f0 f1 f2 := ⟨A0, c0, A1, c1, by simpa using heap_alloc_new W _, hB.size, hr0, hr1⟩
def squintlaw13_arm.l0 : Nat → List (S38) → Int → Int → Int → Option (Int × Bool × Int × Int × (List (S41)))
  | 0, _, _, _, _ => none
  | k + 1, x0, x1, x2, x7 => if x7 < (x0.length : Int) then (if 0 ≤ x7 then (if ((rd_T38 x0 x7).f0) = x1 then (if x2 ≥ 0 then (if x2 < (((rd_T38 x0 x7).f1).length : Int) then (if 0 ≤ x2 then (some ((rd_T43 ((rd_T38 x0 x7).f1) x2).f0, (rd_T43 ((rd_T38 x0 x7).f1) x2).f1, (rd_T43 ((rd_T38 x0 x7).f1) x2).f2.f0, (rd_T43 ((rd_T38 x0 x7).f1) x2).f2.f1, (rd_T43 ((rd_T38 x0 x7).f1) x2).f2.f2)) else (none)) else (squintlaw13_arm.l0 k x0 x1 x2 (wrap64 (x7 + 1)))) else (squintlaw13_arm.l0 k x0 x1 x2 (wrap64 (x7 + 1)))) else (squintlaw13_arm.l0 k x0 x1 x2 (wrap64 (x7 + 1)))) else (none)) else (some (0, false, 0, 0, ([] : List (S41))))
def squintlaw13_arm.f (k : Nat) (l0 : List (S38)) (a1 : Int) (a2 : Int) : Option (Int × Bool × Int × Int × (List (S41))) := squintlaw13_arm.l0 k l0 a1 a2 0
set_option maxHeartbeats 8000000 in
set_option maxRecDepth 100000 in
theorem squintlaw13_arm.calls (k : Nat) (P0_ : Nat → Prop) (A0 : Option Addr) (c0 : Nat) (l0 : List (S38)) (a1 : Int) (a2 : Int) (r1 : Int) (r2 : Bool) (r3 : Int) (r4 : Int) (r5 : List (S41)) (w : World) (hs0 : Kd.V k38 38 w w.heap.size (fun k_ => P0_ k_) (.slice A0 l0.length c0) l0) (h : squintlaw13_arm.f k l0 a1 a2 = some (r1, r2, r3, r4, r5)) :
    Calls Try.prog 18 #[.slice A0 l0.length c0, .int .i64 a1, .int .i64 a2] w fun e w' => ∃ v4_ : Value, e = .returned (.agg #[.int .i64 r1, .bool r2, .int .i64 r3, .int .i64 r4, v4_]) ∧ Kd.V k41 41 w' w.heap.size (fun k_ => (P0_ k_ ∨ w.heap.size ≤ k_)) v4_ r5 ∧ Below w.heap.size w w' := by
  have hu43 := Try.underlying43
  have HO0 := Aside0.mk (show Kd.V k38 38 w w.heap.size (fun k_ => (P0_ k_ ∨ w.heap.size ≤ k_)) (.slice A0 l0.length c0) l0 from Kd.V_mono hs0 (fun k_ hk => .inl hk))
  have HB := Aside0.mk (Below.refl w.heap.size w)
  have H : (squintlaw13_arm.l0 k l0 a1 a2 0) = some (r1, r2, r3, r4, r5) := h
  clear h
  have H' := Aside0.mk H
  clear H
  go_enter Try.func18, Try.ntmps18
  go_wp2_with (first | ((with_reducible refine gate_dst (N := 6) rfl ?_); (try (refine gate_guard (by rfl) ?_; dsimp only)); refine box_event ?hg (N := 6) ?hd (cs := #[.int .i64 0, .bool false, .int .i64 0, .int .i64 0, .slice none 0 0]) (t := 43) ?hr ?_; (case hd => rfl); (case hg => rfl); (case hr => first | (go_simp; done) | (go_simp; rfl)); intro gb225 hg w4 hbox hb; have n0_ := Aside0.mk (Kd.V_below (Kd.V_elderB (by (with_reducible repeat (first | apply Kd.V_alloc | apply Kd.V_drewN | apply Kd.V_drew)); exact HO0.out) gb225 (Nat.le_of_eq hg.symm)) hb); have n1_ := Aside0.mk (below_step (by repeat (first | (with_reducible first | exact HB.out | apply below_alloc | apply pw_below_drewN | apply below_drew1) | exact HB.out)) hb); have n2_ := Aside0.mk (hbox); have n3_ := Aside0.mk ((by rw [hg]; exact (below_size (by repeat (first | (with_reducible first | exact HB.out | apply below_alloc | apply pw_below_drewN | apply below_drew1) | exact HB.out))) : w.heap.size ≤ gb225)); have n4_ := Aside0.mk ((by rw [hg]; exact (below_size (by repeat (first | (with_reducible first | exact HB.out | apply below_alloc | apply pw_below_drewN | apply below_drew1) | exact HB.out))) : w.heap.size ≤ gb225)); clear HO0; clear HB; have HO0 := n0_; have HB := n1_; have BK225 := n2_; have GW225 := n3_; have GE225 := n4_; clear n0_ n1_ n2_ n3_ n4_; clear hb hbox hg))
  go_loopg [7] k (fun kq v7 w' => ∃ (x7_1 : Int) (x226000_1 : Int) (x226001_1 : Bool) (x226002_1 : Int) (x226003_1 : Int), v7 = .int .i64 x7_1 ∧ Aside0 (squintlaw13_arm.l0 kq l0 a1 a2 x7_1 = some (r1, r2, r3, r4, r5)) ∧ Aside0 (kq ≤ k) ∧ Aside0 (Kd.V k38 38 w' w.heap.size (fun k_ => (P0_ k_ ∨ w.heap.size ≤ k_) ∧ k_ ≠ gb225) (.slice A0 l0.length c0) l0) ∧ Aside0 (w'.heap[gb225]? = some (.cells #[.int .i64 x226000_1, .bool x226001_1, .int .i64 x226002_1, .int .i64 x226003_1, (.slice none 0 0)] 43 (0, 0))) ∧ Aside0 (Below w.heap.size w w'))
  case atStart => exact ⟨(0), (0), (false), (0), (0), (by first | rfl | (simp; done) | (simp [*]; done)), H', ⟨Nat.le_refl _⟩, ⟨by (with_reducible repeat (first | apply Kd.V_alloc | apply Kd.V_drewN | apply Kd.V_drew)); exact HO0.out⟩, ⟨by (with_reducible repeat (first | refine blk_drewN ?_ _ | refine blk_drew ?_ | refine blk_alloc ?_ _)); exact BK225.out⟩, ⟨by repeat (first | (with_reducible first | exact HB.out | apply below_alloc | apply pw_below_drewN | apply below_drew1 | refine below_set ?_ GE225.out) | exact HB.out)⟩⟩
  case round =>
    clear H'
    try clear c1
    try clear p2
    obtain ⟨x7_1, x226000_1, x226001_1, x226002_1, x226003_1, rfl, HA, HK1, HO_0, BK225, HB⟩ := hrel
    cases gk with
    | zero => exact absurd HA.out (by simp [squintlaw13_arm.l0])
    | succ k1 =>
      have H := HA.out
      clear HA
      simp only [squintlaw13_arm.l0] at H
      by_cases c5 : x7_1 < (l0.length : Int)
      · rw [if_pos c5] at H
        have c5b0 : decide (x7_1 < (l0.length : Int)) = true := decide_eq_true c5
        clear c5
        by_cases c6 : 0 ≤ x7_1
        · rw [if_pos c6] at H
          have c6b0 : decide (0 ≤ x7_1) = true := decide_eq_true c6
          clear c6
          by_cases c7 : ((rd_T38 l0 x7_1).f0) = a1
          · rw [if_pos c7] at H
            have c7b0 : (((rd_T38 l0 x7_1).f0) == a1) = true := beq_iff_eq.mpr c7
            have c7b1 : (((rd_T38 l0 x7_1).f0) != a1) = false := bne_eq_false_iff_eq.mpr c7
            clear c7
            by_cases c8 : a2 ≥ 0
            · rw [if_pos c8] at H
              have c8b0 : decide (0 ≤ a2) = true := decide_eq_true c8
              clear c8
              by_cases c9 : a2 < (((rd_T38 l0 x7_1).f1).length : Int)
              · rw [if_pos c9] at H
                have c9b0 : decide (a2 < (((rd_T38 l0 x7_1).f1).length : Int)) = true := decide_eq_true c9
                clear c9
                by_cases c10 : 0 ≤ a2
                · rw [if_pos c10] at H
                  have c10b0 : decide (0 ≤ a2) = true := decide_eq_true c10
                  clear c10
                  simp only [Option.some.injEq, Prod.mk.injEq] at H
                  obtain ⟨rfl, rfl, rfl, rfl, rfl⟩ := H
                  have p226 : 0 ≤ (x7_1 : Int) := of_decide_eq_true (by first | (with_reducible assumption) | assumption)
                  have q226 : x7_1 < (l0.length : Int) := of_decide_eq_true (by first | (with_reducible assumption) | assumption)
                  obtain ⟨ad226, A226_1, c226_1, e226, hx226_0, hx226_1, hl226_1, hi226_1⟩ := at_T38 (Kd.V_reads' HO_0.out).2.2 x7_1 p226 q226
                  cases e226
                  obtain ⟨ce226, hce226, hMe226, hcc226⟩ := Kd.V_get HO_0.out z38 x7_1 p226 (by first | exact q226 | exact of_decide_eq_true (by first | (with_reducible assumption) | assumption) | (have e_ := (Kd.V_reads' HO_0.out).1; omega))
                  obtain ⟨ua226_1, uc226_1, rfl, ul226_1, ge226_1⟩ := k38_openF hMe226
                  have hv226_1 := hcc226 1 _ rfl
                  rw [add_field _ _ 1 (by omega)] at hv226_1
                  replace hv226_1 := Option.some.inj (hv226_1.symm.trans hx226_1)
                  injection hv226_1 with hva_ hvn_ hvc_
                  rw [hva_] at ge226_1
                  rw [hvc_] at ul226_1
                  have HL226_1 := Aside0.mk (show Kd.V k43 43 _ w.heap.size _ _ ((rd_T38 l0 x7_1).f1) from Kd.V_mk ul226_1 ge226_1)
                  clear hva_ hvn_ hvc_ ge226_1 ul226_1
                  clear hcc226 hce226
                  have HR226_1 := Aside0.mk hi226_1
                  have HC226_1 := Aside0.mk hl226_1
                  clear hi226_1 hl226_1
                  replace p226 := eq_true p226
                  replace q226 := eq_true q226
                  have p227 : 0 ≤ (x7_1 : Int) := of_decide_eq_true (by first | (with_reducible assumption) | assumption)
                  have q227 : x7_1 < (l0.length : Int) := of_decide_eq_true (by first | (with_reducible assumption) | assumption)
                  obtain ⟨ad227, A227_1, c227_1, e227, hx227_0, hx227_1, hl227_1, hi227_1⟩ := at_T38 (Kd.V_reads' HO_0.out).2.2 x7_1 p227 q227
                  obtain rfl : ad226 = ad227 := (by injection e227)
                  obtain ⟨ce227, hce227, hMe227, hcc227⟩ := Kd.V_get HO_0.out z38 x7_1 p227 (by first | exact q227 | exact of_decide_eq_true (by first | (with_reducible assumption) | assumption) | (have e_ := (Kd.V_reads' HO_0.out).1; omega))
                  obtain ⟨ua227_1, uc227_1, rfl, ul227_1, ge227_1⟩ := k38_openF hMe227
                  have hv227_1 := hcc227 1 _ rfl
                  rw [add_field _ _ 1 (by omega)] at hv227_1
                  replace hv227_1 := Option.some.inj (hv227_1.symm.trans hx227_1)
                  injection hv227_1 with hva_ hvn_ hvc_
                  rw [hva_] at ge227_1
                  rw [hvc_] at ul227_1
                  have HL227_1 := Aside0.mk (show Kd.V k43 43 _ w.heap.size _ _ ((rd_T38 l0 x7_1).f1) from Kd.V_mk ul227_1 ge227_1)
                  clear hva_ hvn_ hvc_ ge227_1 ul227_1
                  clear hcc227 hce227
                  have HR227_1 := Aside0.mk hi227_1
                  have HC227_1 := Aside0.mk hl227_1
                  clear hi227_1 hl227_1
                  replace p227 := eq_true p227
                  replace q227 := eq_true q227
                  have ea_ := Option.some.inj (hx226_1.symm.trans hx227_1)
                  injection ea_ with ea_ en_ ec_
                  subst ea_
                  subst ec_
                  clear en_
                  have p228 : 0 ≤ (x7_1 : Int) := of_decide_eq_true (by first | (with_reducible assumption) | assumption)
                  have q228 : x7_1 < (l0.length : Int) := of_decide_eq_true (by first | (with_reducible assumption) | assumption)
                  obtain ⟨ad228, A228_1, c228_1, e228, hx228_0, hx228_1, hl228_1, hi228_1⟩ := at_T38 (Kd.V_reads' HO_0.out).2.2 x7_1 p228 q228
                  obtain rfl : ad226 = ad228 := (by injection e228)
                  obtain ⟨ce228, hce228, hMe228, hcc228⟩ := Kd.V_get HO_0.out z38 x7_1 p228 (by first | exact q228 | exact of_decide_eq_true (by first | (with_reducible assumption) | assumption) | (have e_ := (Kd.V_reads' HO_0.out).1; omega))
                  obtain ⟨ua228_1, uc228_1, rfl, ul228_1, ge228_1⟩ := k38_openF hMe228
                  have hv228_1 := hcc228 1 _ rfl
                  rw [add_field _ _ 1 (by omega)] at hv228_1
                  replace hv228_1 := Option.some.inj (hv228_1.symm.trans hx228_1)
                  injection hv228_1 with hva_ hvn_ hvc_
                  rw [hva_] at ge228_1
                  rw [hvc_] at ul228_1
                  have HL228_1 := Aside0.mk (show Kd.V k43 43 _ w.heap.size _ _ ((rd_T38 l0 x7_1).f1) from Kd.V_mk ul228_1 ge228_1)
                  clear hva_ hvn_ hvc_ ge228_1 ul228_1
                  clear hcc228 hce228
                  have HR228_1 := Aside0.mk hi228_1
                  have HC228_1 := Aside0.mk hl228_1
                  clear hi228_1 hl228_1
                  replace p228 := eq_true p228
                  replace q228 := eq_true q228
                  have ea_ := Option.some.inj (hx226_1.symm.trans hx228_1)
                  injection ea_ with ea_ en_ ec_
                  subst ea_
                  subst ec_
                  clear en_
                  have p229 : 0 ≤ (a2 : Int) := of_decide_eq_true (by first | (with_reducible assumption) | assumption)
                  have q229 : a2 < (((rd_T38 l0 x7_1).f1).length : Int) := of_decide_eq_true (by first | (with_reducible assumption) | assumption)
                  obtain ⟨ad229, A229_4, c229_4, e229, hx229_0, hx229_1, hx229_2, hx229_3, hx229_4, hl229_4, hi229_4⟩ := at_T43 (by repeat (first | (with_reducible exact HR228_1.out) | (with_reducible refine Kd.C_alloc ?_ _) | (with_reducible refine Kd.C_drewN ?_ _) | (with_reducible refine Kd.C_drew ?_) | exact HR228_1.out)) a2 p229 q229
                  cases e229
                  obtain ⟨ce229, hce229, hMe229, hcc229⟩ := Kd.V_get HL228_1.out z43 a2 p229 (by first | exact q229 | exact of_decide_eq_true (by first | (with_reducible assumption) | assumption) | (have e_ := (Kd.V_reads' HL228_1.out).1; omega))
                  obtain ⟨ua229_4, uc229_4, rfl, ul229_4, ge229_4⟩ := k43_openF hMe229
                  have hv229_4 := hcc229 4 _ rfl
                  rw [add_field _ _ 4 (by omega)] at hv229_4
                  replace hv229_4 := Option.some.inj (hv229_4.symm.trans hx229_4)
                  injection hv229_4 with hva_ hvn_ hvc_
                  rw [hva_] at ge229_4
                  rw [hvc_] at ul229_4
                  have HL229_4 := Aside0.mk (show Kd.V k41 41 _ w.heap.size _ _ ((rd_T43 ((rd_T38 l0 x7_1).f1) a2).f2.f2) from Kd.V_mk ul229_4 ge229_4)
                  clear hva_ hvn_ hvc_ ge229_4 ul229_4
                  clear hcc229 hce229
                  have HR229_4 := Aside0.mk hi229_4
                  have HC229_4 := Aside0.mk hl229_4
                  clear hi229_4 hl229_4
                  replace p229 := eq_true p229
                  replace q229 := eq_true q229
                  have hcz11_0 : wr.cell? ⟨gb225, 0, none⟩ = some (.int .i64 x226000_1) := (blk_cell BK225.out 0).trans rfl
                  have hcz11_1 : wr.cell? ⟨gb225, 1, none⟩ = some (.bool x226001_1) := (blk_cell BK225.out 1).trans rfl
                  have hcz11_2 : wr.cell? ⟨gb225, 2, none⟩ = some (.int .i64 x226002_1) := (blk_cell BK225.out 2).trans rfl
                  have hcz11_3 : wr.cell? ⟨gb225, 3, none⟩ = some (.int .i64 x226003_1) := (blk_cell BK225.out 3).trans rfl
                  have hcz11_4 : wr.cell? ⟨gb225, 4, none⟩ = some (.slice none 0 0) := (blk_cell BK225.out 4).trans rfl
                  have hfz11_0 := blk_frozen BK225.out 0
                  have hfz11_1 := blk_frozen BK225.out 1
                  have hfz11_2 := blk_frozen BK225.out 2
                  have hfz11_3 := blk_frozen BK225.out 3
                  have hfz11_4 := blk_frozen BK225.out 4
                  go_wp2
                  refine bodyPost_ret (results_cell_row rfl _ _ gb225 43 #[.int .i64 ((rd_T43 ((rd_T38 l0 x7_1).f1) a2).f0), .bool ((rd_T43 ((rd_T38 l0 x7_1).f1) a2).f1), .int .i64 ((rd_T43 ((rd_T38 l0 x7_1).f1) a2).f2.f0), .int .i64 ((rd_T43 ((rd_T38 l0 x7_1).f1) a2).f2.f1), .slice A229_4 ((rd_T43 ((rd_T38 l0 x7_1).f1) a2).f2.f2).length c229_4] (0, 0) _ rfl (by (with_reducible repeat (first | refine blk_drewN ?_ _ | refine blk_drew ?_ | refine blk_alloc ?_ _)); refine blk_put (cs := #[.int .i64 ((rd_T43 ((rd_T38 l0 x7_1).f1) a2).f0), .bool ((rd_T43 ((rd_T38 l0 x7_1).f1) a2).f1), .int .i64 ((rd_T43 ((rd_T38 l0 x7_1).f1) a2).f2.f0), .int .i64 ((rd_T43 ((rd_T38 l0 x7_1).f1) a2).f2.f1), .slice none 0 0]) ?_ 4 _ rfl; (with_reducible repeat (first | refine blk_drewN ?_ _ | refine blk_drew ?_ | refine blk_alloc ?_ _)); refine blk_put (cs := #[.int .i64 ((rd_T43 ((rd_T38 l0 x7_1).f1) a2).f0), .bool ((rd_T43 ((rd_T38 l0 x7_1).f1) a2).f1), .int .i64 ((rd_T43 ((rd_T38 l0 x7_1).f1) a2).f2.f0), .int .i64 x226003_1, .slice none 0 0]) ?_ 3 _ rfl; (with_reducible repeat (first | refine blk_drewN ?_ _ | refine blk_drew ?_ | refine blk_alloc ?_ _)); refine blk_put (cs := #[.int .i64 ((rd_T43 ((rd_T38 l0 x7_1).f1) a2).f0), .bool ((rd_T43 ((rd_T38 l0 x7_1).f1) a2).f1), .int .i64 x226002_1, .int .i64 x226003_1, .slice none 0 0]) ?_ 2 _ rfl; (with_reducible repeat (first | refine blk_drewN ?_ _ | refine blk_drew ?_ | refine blk_alloc ?_ _)); refine blk_put (cs := #[.int .i64 ((rd_T43 ((rd_T38 l0 x7_1).f1) a2).f0), .bool x226001_1, .int .i64 x226002_1, .int .i64 x226003_1, .slice none 0 0]) ?_ 1 _ rfl; (with_reducible repeat (first | refine blk_drewN ?_ _ | refine blk_drew ?_ | refine blk_alloc ?_ _)); refine blk_put (cs := #[.int .i64 x226000_1, .bool x226001_1, .int .i64 x226002_1, .int .i64 x226003_1, .slice none 0 0]) ?_ 0 _ rfl; (with_reducible repeat (first | refine blk_drewN ?_ _ | refine blk_drew ?_ | refine blk_alloc ?_ _)); exact BK225.out) Try.underlying43 rfl (by kernel_rfl)) rfl ?_
                  exact ⟨_, by first | rfl | (simp [errW_none, errW_some] <;> rfl) | (simp [*, errW_none, errW_some] <;> rfl), by (with_reducible repeat (first | apply Kd.V_alloc | apply Kd.V_drewN | apply Kd.V_drew)); exact Kd.V_mono (Kd.V_far (p := ⟨gb225, 4, none⟩) (Kd.V_far (p := ⟨gb225, 3, none⟩) (Kd.V_far (p := ⟨gb225, 2, none⟩) (Kd.V_far (p := ⟨gb225, 1, none⟩) (Kd.V_far (p := ⟨gb225, 0, none⟩) (Kd.V_mono HL229_4.out (fun k_ hk => (⟨hk, hk.2⟩ : _ ∧ k_ ≠ gb225))) (fun _ hk => hk.2) (.int .i64 ((rd_T43 ((rd_T38 l0 x7_1).f1) a2).f0))) (fun _ hk => hk.2) (.bool ((rd_T43 ((rd_T38 l0 x7_1).f1) a2).f1))) (fun _ hk => hk.2) (.int .i64 ((rd_T43 ((rd_T38 l0 x7_1).f1) a2).f2.f0))) (fun _ hk => hk.2) (.int .i64 ((rd_T43 ((rd_T38 l0 x7_1).f1) a2).f2.f1))) (fun _ hk => hk.2) (.slice A229_4 ((rd_T43 ((rd_T38 l0 x7_1).f1) a2).f2.f2).length c229_4)) (fun _ hk => hk.1.1), by repeat (first | (with_reducible first | exact HB.out | apply below_alloc | apply pw_below_drewN | apply below_drew1 | refine below_set ?_ GE225.out) | exact HB.out)⟩
                · rw [if_neg c10] at H
                  exact absurd H (by simp)
              · rw [if_neg c9] at H
                have c9b0 : decide (a2 < (((rd_T38 l0 x7_1).f1).length : Int)) = false := decide_eq_false c9
                clear c9
                have H' := Aside0.mk H
                clear H
                have p226 : 0 ≤ (x7_1 : Int) := of_decide_eq_true (by first | (with_reducible assumption) | assumption)
                have q226 : x7_1 < (l0.length : Int) := of_decide_eq_true (by first | (with_reducible assumption) | assumption)
                obtain ⟨ad226, A226_1, c226_1, e226, hx226_0, hx226_1, hl226_1, hi226_1⟩ := at_T38 (Kd.V_reads' HO_0.out).2.2 x7_1 p226 q226
                cases e226
                obtain ⟨ce226, hce226, hMe226, hcc226⟩ := Kd.V_get HO_0.out z38 x7_1 p226 (by first | exact q226 | exact of_decide_eq_true (by first | (with_reducible assumption) | assumption) | (have e_ := (Kd.V_reads' HO_0.out).1; omega))
                obtain ⟨ua226_1, uc226_1, rfl, ul226_1, ge226_1⟩ := k38_openF hMe226
                have hv226_1 := hcc226 1 _ rfl
                rw [add_field _ _ 1 (by omega)] at hv226_1
                replace hv226_1 := Option.some.inj (hv226_1.symm.trans hx226_1)
                injection hv226_1 with hva_ hvn_ hvc_
                rw [hva_] at ge226_1
                rw [hvc_] at ul226_1
                have HL226_1 := Aside0.mk (show Kd.V k43 43 _ w.heap.size _ _ ((rd_T38 l0 x7_1).f1) from Kd.V_mk ul226_1 ge226_1)
                clear hva_ hvn_ hvc_ ge226_1 ul226_1
                clear hcc226 hce226
                have HR226_1 := Aside0.mk hi226_1
                have HC226_1 := Aside0.mk hl226_1
                clear hi226_1 hl226_1
                replace p226 := eq_true p226
                replace q226 := eq_true q226
                have p227 : 0 ≤ (x7_1 : Int) := of_decide_eq_true (by first | (with_reducible assumption) | assumption)
                have q227 : x7_1 < (l0.length : Int) := of_decide_eq_true (by first | (with_reducible assumption) | assumption)
                obtain ⟨ad227, A227_1, c227_1, e227, hx227_0, hx227_1, hl227_1, hi227_1⟩ := at_T38 (Kd.V_reads' HO_0.out).2.2 x7_1 p227 q227
                obtain rfl : ad226 = ad227 := (by injection e227)
                obtain ⟨ce227, hce227, hMe227, hcc227⟩ := Kd.V_get HO_0.out z38 x7_1 p227 (by first | exact q227 | exact of_decide_eq_true (by first | (with_reducible assumption) | assumption) | (have e_ := (Kd.V_reads' HO_0.out).1; omega))
                obtain ⟨ua227_1, uc227_1, rfl, ul227_1, ge227_1⟩ := k38_openF hMe227
                have hv227_1 := hcc227 1 _ rfl
                rw [add_field _ _ 1 (by omega)] at hv227_1
                replace hv227_1 := Option.some.inj (hv227_1.symm.trans hx227_1)
                injection hv227_1 with hva_ hvn_ hvc_
                rw [hva_] at ge227_1
                rw [hvc_] at ul227_1
                have HL227_1 := Aside0.mk (show Kd.V k43 43 _ w.heap.size _ _ ((rd_T38 l0 x7_1).f1) from Kd.V_mk ul227_1 ge227_1)
                clear hva_ hvn_ hvc_ ge227_1 ul227_1
                clear hcc227 hce227
                have HR227_1 := Aside0.mk hi227_1
                have HC227_1 := Aside0.mk hl227_1
                clear hi227_1 hl227_1
                replace p227 := eq_true p227
                replace q227 := eq_true q227
                have ea_ := Option.some.inj (hx226_1.symm.trans hx227_1)
                injection ea_ with ea_ en_ ec_
                subst ea_
                subst ec_
                clear en_
                go_wp2
                go_roundg k1
                case measure => have := HK1.out; omega
                case rel => exact ⟨(wrap64 (x7_1 + 1)), (x226000_1), (x226001_1), (x226002_1), (x226003_1), (by first | rfl | (simp; done) | (simp [*]; done)), H', ⟨by have := HK1.out; omega⟩, ⟨by (with_reducible repeat (first | apply Kd.V_alloc | apply Kd.V_drewN | apply Kd.V_drew)); exact HO_0.out⟩, ⟨by (with_reducible repeat (first | refine blk_drewN ?_ _ | refine blk_drew ?_ | refine blk_alloc ?_ _)); exact BK225.out⟩, ⟨by repeat (first | (with_reducible first | exact HB.out | apply below_alloc | apply pw_below_drewN | apply below_drew1 | refine below_set ?_ GE225.out) | exact HB.out)⟩⟩
            · rw [if_neg c8] at H
              have c8b0 : decide (0 ≤ a2) = false := decide_eq_false c8
              clear c8
              have H' := Aside0.mk H
              clear H
              have p226 : 0 ≤ (x7_1 : Int) := of_decide_eq_true (by first | (with_reducible assumption) | assumption)
              have q226 : x7_1 < (l0.length : Int) := of_decide_eq_true (by first | (with_reducible assumption) | assumption)
              obtain ⟨ad226, A226_1, c226_1, e226, hx226_0, hx226_1, hl226_1, hi226_1⟩ := at_T38 (Kd.V_reads' HO_0.out).2.2 x7_1 p226 q226
              cases e226
              obtain ⟨ce226, hce226, hMe226, hcc226⟩ := Kd.V_get HO_0.out z38 x7_1 p226 (by first | exact q226 | exact of_decide_eq_true (by first | (with_reducible assumption) | assumption) | (have e_ := (Kd.V_reads' HO_0.out).1; omega))
              obtain ⟨ua226_1, uc226_1, rfl, ul226_1, ge226_1⟩ := k38_openF hMe226
              have hv226_1 := hcc226 1 _ rfl
              rw [add_field _ _ 1 (by omega)] at hv226_1
              replace hv226_1 := Option.some.inj (hv226_1.symm.trans hx226_1)
              injection hv226_1 with hva_ hvn_ hvc_
              rw [hva_] at ge226_1
              rw [hvc_] at ul226_1
              have HL226_1 := Aside0.mk (show Kd.V k43 43 _ w.heap.size _ _ ((rd_T38 l0 x7_1).f1) from Kd.V_mk ul226_1 ge226_1)
              clear hva_ hvn_ hvc_ ge226_1 ul226_1
              clear hcc226 hce226
              have HR226_1 := Aside0.mk hi226_1
              have HC226_1 := Aside0.mk hl226_1
              clear hi226_1 hl226_1
              replace p226 := eq_true p226
              replace q226 := eq_true q226
              go_wp2
              go_roundg k1
              case measure => have := HK1.out; omega
              case rel => exact ⟨(wrap64 (x7_1 + 1)), (x226000_1), (x226001_1), (x226002_1), (x226003_1), (by first | rfl | (simp; done) | (simp [*]; done)), H', ⟨by have := HK1.out; omega⟩, ⟨by (with_reducible repeat (first | apply Kd.V_alloc | apply Kd.V_drewN | apply Kd.V_drew)); exact HO_0.out⟩, ⟨by (with_reducible repeat (first | refine blk_drewN ?_ _ | refine blk_drew ?_ | refine blk_alloc ?_ _)); exact BK225.out⟩, ⟨by repeat (first | (with_reducible first | exact HB.out | apply below_alloc | apply pw_below_drewN | apply below_drew1 | refine below_set ?_ GE225.out) | exact HB.out)⟩⟩
          · rw [if_neg c7] at H
            have c7b0 : (((rd_T38 l0 x7_1).f0) == a1) = false := beq_eq_false_iff_ne.mpr c7
            have c7b1 : (((rd_T38 l0 x7_1).f0) != a1) = true := bne_iff_ne.mpr c7
            have H' := Aside0.mk H
            clear H
            have p226 : 0 ≤ (x7_1 : Int) := of_decide_eq_true (by first | (with_reducible assumption) | assumption)
            have q226 : x7_1 < (l0.length : Int) := of_decide_eq_true (by first | (with_reducible assumption) | assumption)
            obtain ⟨ad226, A226_1, c226_1, e226, hx226_0, hx226_1, hl226_1, hi226_1⟩ := at_T38 (Kd.V_reads' HO_0.out).2.2 x7_1 p226 q226
            cases e226
            obtain ⟨ce226, hce226, hMe226, hcc226⟩ := Kd.V_get HO_0.out z38 x7_1 p226 (by first | exact q226 | exact of_decide_eq_true (by first | (with_reducible assumption) | assumption) | (have e_ := (Kd.V_reads' HO_0.out).1; omega))
            obtain ⟨ua226_1, uc226_1, rfl, ul226_1, ge226_1⟩ := k38_openF hMe226
            have hv226_1 := hcc226 1 _ rfl
            rw [add_field _ _ 1 (by omega)] at hv226_1
            replace hv226_1 := Option.some.inj (hv226_1.symm.trans hx226_1)
            injection hv226_1 with hva_ hvn_ hvc_
            rw [hva_] at ge226_1
            rw [hvc_] at ul226_1
            have HL226_1 := Aside0.mk (show Kd.V k43 43 _ w.heap.size _ _ ((rd_T38 l0 x7_1).f1) from Kd.V_mk ul226_1 ge226_1)
            clear hva_ hvn_ hvc_ ge226_1 ul226_1
            clear hcc226 hce226
            have HR226_1 := Aside0.mk hi226_1
            have HC226_1 := Aside0.mk hl226_1
            clear hi226_1 hl226_1
            replace p226 := eq_true p226
            replace q226 := eq_true q226
            go_wp2
            go_roundg k1
            case measure => have := HK1.out; omega
            case rel => exact ⟨(wrap64 (x7_1 + 1)), (x226000_1), (x226001_1), (x226002_1), (x226003_1), (by first | rfl | (simp; done) | (simp [*]; done)), H', ⟨by have := HK1.out; omega⟩, ⟨by (with_reducible repeat (first | apply Kd.V_alloc | apply Kd.V_drewN | apply Kd.V_drew)); exact HO_0.out⟩, ⟨by (with_reducible repeat (first | refine blk_drewN ?_ _ | refine blk_drew ?_ | refine blk_alloc ?_ _)); exact BK225.out⟩, ⟨by repeat (first | (with_reducible first | exact HB.out | apply below_alloc | apply pw_below_drewN | apply below_drew1 | refine below_set ?_ GE225.out) | exact HB.out)⟩⟩
        · rw [if_neg c6] at H
          exact absurd H (by simp)
      · rw [if_neg c5] at H
        have c5b0 : decide (x7_1 < (l0.length : Int)) = false := decide_eq_false c5
        clear c5
        simp only [Option.some.injEq, Prod.mk.injEq] at H
        obtain ⟨rfl, rfl, rfl, rfl, rfl⟩ := H
        have hcz12_0 : wr.cell? ⟨gb225, 0, none⟩ = some (.int .i64 x226000_1) := (blk_cell BK225.out 0).trans rfl
        have hcz12_1 : wr.cell? ⟨gb225, 1, none⟩ = some (.bool x226001_1) := (blk_cell BK225.out 1).trans rfl
        have hcz12_2 : wr.cell? ⟨gb225, 2, none⟩ = some (.int .i64 x226002_1) := (blk_cell BK225.out 2).trans rfl
        have hcz12_3 : wr.cell? ⟨gb225, 3, none⟩ = some (.int .i64 x226003_1) := (blk_cell BK225.out 3).trans rfl
        have hcz12_4 : wr.cell? ⟨gb225, 4, none⟩ = some (.slice none 0 0) := (blk_cell BK225.out 4).trans rfl
        have hfz12_0 := blk_frozen BK225.out 0
        have hfz12_1 := blk_frozen BK225.out 1
        have hfz12_2 := blk_frozen BK225.out 2
        have hfz12_3 := blk_frozen BK225.out 3
        have hfz12_4 := blk_frozen BK225.out 4
        go_wp2
        refine bodyPost_ret (results_cell_row rfl _ _ gb225 43 #[.int .i64 0, .bool false, .int .i64 0, .int .i64 0, .slice none 0 0] (0, 0) _ rfl (by (with_reducible repeat (first | refine blk_drewN ?_ _ | refine blk_drew ?_ | refine blk_alloc ?_ _)); refine blk_put (cs := #[.int .i64 0, .bool false, .int .i64 0, .int .i64 0, .slice none 0 0]) ?_ 4 _ rfl; (with_reducible repeat (first | refine blk_drewN ?_ _ | refine blk_drew ?_ | refine blk_alloc ?_ _)); refine blk_put (cs := #[.int .i64 0, .bool false, .int .i64 0, .int .i64 x226003_1, .slice none 0 0]) ?_ 3 _ rfl; (with_reducible repeat (first | refine blk_drewN ?_ _ | refine blk_drew ?_ | refine blk_alloc ?_ _)); refine blk_put (cs := #[.int .i64 0, .bool false, .int .i64 x226002_1, .int .i64 x226003_1, .slice none 0 0]) ?_ 2 _ rfl; (with_reducible repeat (first | refine blk_drewN ?_ _ | refine blk_drew ?_ | refine blk_alloc ?_ _)); refine blk_put (cs := #[.int .i64 0, .bool x226001_1, .int .i64 x226002_1, .int .i64 x226003_1, .slice none 0 0]) ?_ 1 _ rfl; (with_reducible repeat (first | refine blk_drewN ?_ _ | refine blk_drew ?_ | refine blk_alloc ?_ _)); refine blk_put (cs := #[.int .i64 x226000_1, .bool x226001_1, .int .i64 x226002_1, .int .i64 x226003_1, .slice none 0 0]) ?_ 0 _ rfl; (with_reducible repeat (first | refine blk_drewN ?_ _ | refine blk_drew ?_ | refine blk_alloc ?_ _)); exact BK225.out) Try.underlying43 rfl (by kernel_rfl)) rfl ?_
        exact ⟨_, by first | rfl | (simp [errW_none, errW_some] <;> rfl) | (simp [*, errW_none, errW_some] <;> rfl), Kd.V_nil _ _ _ _ _, by repeat (first | (with_reducible first | exact HB.out | apply below_alloc | apply pw_below_drewN | apply below_drew1 | refine below_set ?_ GE225.out) | exact HB.out)⟩
def squintlaw13_without.l0 : Nat → List (S47) → Int → List (S47) → Int → Option ((List (S47)))
  | 0, _, _, _, _ => none
  | k + 1, x0, x1, x5, x6 => if x6 < (x0.length : Int) then (if 0 ≤ x6 then (if ((rd_T47 x0 x6).f0) = x1 then (squintlaw13_without.l0 k x0 x1 x5 (wrap64 (x6 + 1))) else (if ((rd_T47 x0 x6).f2) = x1 then (squintlaw13_without.l0 k x0 x1 x5 (wrap64 (x6 + 1))) else (if x5.length < 3518437208883 then (squintlaw13_without.l0 k x0 x1 (x5 ++ [(⟨(rd_T47 x0 x6).f0, (rd_T47 x0 x6).f1, (rd_T47 x0 x6).f2, (rd_T47 x0 x6).f3, (rd_T47 x0 x6).f4⟩ : S47)]) (wrap64 (x6 + 1))) else (none)))) else (none)) else (some x5)
def squintlaw13_without.f (k : Nat) (l0 : List (S47)) (a1 : Int) : Option ((List (S47))) := squintlaw13_without.l0 k l0 a1 (([] : List (S47))) 0
set_option maxHeartbeats 8000000 in
set_option maxRecDepth 100000 in
theorem squintlaw13_without.calls (k : Nat) (A0 : Option Addr) (c0 : Nat) (l0 : List (S47)) (a1 : Int) (r : List (S47)) (w : World) (hr0 : Kd.C k47 w A0 l0.length l0) (hc0 : l0.length ≤ c0) (h : squintlaw13_without.f k l0 a1 = some r) :
    Calls Try.prog 21 #[.slice A0 l0.length c0, .int .i64 a1] w fun e w' => ∃ v0_ : Value, e = .returned (v0_) ∧ Kd.R k47 47 w' w.heap.size (fun _ => True) v0_ r ∧ Below w.heap.size w w' := by
  have hu47 := Try.underlying47
  have HR0 := Aside0.mk hr0
  have HC0 := Aside0.mk hc0
  clear hr0 hc0
  have HB := Aside0.mk (Below.refl w.heap.size w)
  have H : (squintlaw13_without.l0 k l0 a1 (([] : List (S47))) 0) = some r := h
  clear h
  obtain ⟨y232, hy232⟩ : ∃ y_ : List (S47), y_ = (([] : List (S47))) := ⟨_, rfl⟩
  replace H : (squintlaw13_without.l0 k l0 a1 y232 0) = some r := by first | (rw [hy232]; with_reducible exact H) | (have H2_ := (Option.bind_some _ _).symm.trans H; rw [hy232]; with_reducible exact H2_) | (have H2_ := (Option.bind_some _ _).symm.trans H; with_reducible exact H2_) | with_reducible exact H | (rw [hy232]; exact H) | exact H
  have Ny232 := Aside0.mk hy232
  clear hy232
  have H' := Aside0.mk H
  clear H
  go_enter Try.func21, Try.ntmps21
  go_wp2_with (first | ((with_reducible refine gate_dst (N := 7) rfl ?_); refine Kd.R_lit k47 _ 47 ?hg (N := 7) ?hd (xs := ([] : List (S47))) (inner := []) (ok := fun _ => True) (okp := fun _ => True) ?hr ?hp (fun _ hk => hk) trivial (Below.refl _ _) (Nat.le_refl _) (by simp) ?_; (case hd => rfl); (case hg => rfl); (case hr => first | (go_simp; done) | (go_simp; rfl)); (case hp => exact (Reps.none _ _)); intro v233 w3 ho4 hb hg_ hnew_; clear hg_ hnew_; (first | rw [← Ny232.out] at ho4 | (simp only [Int.reduceToNat] at ho4; rw [← Ny232.out] at ho4)); have n0_ := Aside0.mk (Kd.R_lower ho4 (below_size (by repeat (first | (with_reducible first | exact HB.out | apply below_alloc | apply pw_below_drewN | apply below_drew1) | exact HB.out)))); have n1_ := Aside0.mk (below_step (by repeat (first | (with_reducible first | exact HB.out | apply below_alloc | apply pw_below_drewN | apply below_drew1) | exact HB.out)) hb); clear HB; have HO234 := n0_; have HB := n1_; clear n0_ n1_; clear hb ho4))
  go_loopg [5, 6] k (fun kq v5 v6 w' => ∃ (x5_1 : List (S47)) (x6_1 : Int), v6 = .int .i64 x6_1 ∧ Aside0 (squintlaw13_without.l0 kq l0 a1 x5_1 x6_1 = some r) ∧ Aside0 (kq ≤ k) ∧ Aside0 (Kd.R k47 47 w' w.heap.size (fun _ => True) v5 x5_1) ∧ Aside0 (Below w.heap.size w w'))
  case atStart => exact ⟨(y232), (0), (by first | rfl | (simp; done) | (simp [*]; done)), H', ⟨Nat.le_refl _⟩, ⟨by (with_reducible repeat (first | apply Kd.R_alloc | apply Kd.R_drewN | apply Kd.R_drew)); exact HO234.out⟩, ⟨by repeat (first | (with_reducible first | exact HB.out | apply below_alloc | apply pw_below_drewN | apply below_drew1) | exact HB.out)⟩⟩
  case round =>
    clear H'
    try clear c2
    try clear p2
    obtain ⟨x5_1, x6_1, rfl, HA, HK1, HO_5, HB⟩ := hrel
    cases gk with
    | zero => exact absurd HA.out (by simp [squintlaw13_without.l0])
    | succ k1 =>
      have H := HA.out
      clear HA
      simp only [squintlaw13_without.l0] at H
      by_cases c5 : x6_1 < (l0.length : Int)
      · rw [if_pos c5] at H
        have c5b0 : decide (x6_1 < (l0.length : Int)) = true := decide_eq_true c5
        clear c5
        by_cases c6 : 0 ≤ x6_1
        · rw [if_pos c6] at H
          have c6b0 : decide (0 ≤ x6_1) = true := decide_eq_true c6
          clear c6
          by_cases c7 : ((rd_T47 l0 x6_1).f0) = a1
          · rw [if_pos c7] at H
            have c7b0 : (((rd_T47 l0 x6_1).f0) == a1) = true := beq_iff_eq.mpr c7
            have c7b1 : (((rd_T47 l0 x6_1).f0) != a1) = false := bne_eq_false_iff_eq.mpr c7
            clear c7
            have H' := Aside0.mk H
            clear H
            have p235 : 0 ≤ (x6_1 : Int) := of_decide_eq_true (by first | (with_reducible assumption) | assumption)
            have q235 : x6_1 < (l0.length : Int) := of_decide_eq_true (by first | (with_reducible assumption) | assumption)
            obtain ⟨ad235, e235, hx235_0, hx235_1, hx235_2, hx235_3, hx235_4⟩ := at_T47 HR0.out x6_1 p235 q235
            cases e235
            replace hx235_0 := (HB.out.cell (World.block_lt_of_cell? w _ hx235_0)).trans hx235_0
            replace hx235_1 := (HB.out.cell (World.block_lt_of_cell? w _ hx235_1)).trans hx235_1
            replace hx235_2 := (HB.out.cell (World.block_lt_of_cell? w _ hx235_2)).trans hx235_2
            replace hx235_3 := (HB.out.cell (World.block_lt_of_cell? w _ hx235_3)).trans hx235_3
            replace hx235_4 := (HB.out.cell (World.block_lt_of_cell? w _ hx235_4)).trans hx235_4
            replace p235 := eq_true p235
            replace q235 := eq_true q235
            go_wp2
            go_roundg k1
            case measure => have := HK1.out; omega
            case rel => exact ⟨(x5_1), (wrap64 (x6_1 + 1)), (by first | rfl | (simp; done) | (simp [*]; done)), H', ⟨by have := HK1.out; omega⟩, ⟨by (with_reducible repeat (first | apply Kd.R_alloc | apply Kd.R_drewN | apply Kd.R_drew)); exact HO_5.out⟩, ⟨by repeat (first | (with_reducible first | exact HB.out | apply below_alloc | apply pw_below_drewN | apply below_drew1) | exact HB.out)⟩⟩
          · rw [if_neg c7] at H
            have c7b0 : (((rd_T47 l0 x6_1).f0) == a1) = false := beq_eq_false_iff_ne.mpr c7
            have c7b1 : (((rd_T47 l0 x6_1).f0) != a1) = true := bne_iff_ne.mpr c7
            by_cases c8 : ((rd_T47 l0 x6_1).f2) = a1
            · rw [if_pos c8] at H
              have c8b0 : (((rd_T47 l0 x6_1).f2) == a1) = true := beq_iff_eq.mpr c8
              have c8b1 : (((rd_T47 l0 x6_1).f2) != a1) = false := bne_eq_false_iff_eq.mpr c8
              clear c8
              have H' := Aside0.mk H
              clear H
              have p235 : 0 ≤ (x6_1 : Int) := of_decide_eq_true (by first | (with_reducible assumption) | assumption)
              have q235 : x6_1 < (l0.length : Int) := of_decide_eq_true (by first | (with_reducible assumption) | assumption)
              obtain ⟨ad235, e235, hx235_0, hx235_1, hx235_2, hx235_3, hx235_4⟩ := at_T47 HR0.out x6_1 p235 q235
              cases e235
              replace hx235_0 := (HB.out.cell (World.block_lt_of_cell? w _ hx235_0)).trans hx235_0
              replace hx235_1 := (HB.out.cell (World.block_lt_of_cell? w _ hx235_1)).trans hx235_1
              replace hx235_2 := (HB.out.cell (World.block_lt_of_cell? w _ hx235_2)).trans hx235_2
              replace hx235_3 := (HB.out.cell (World.block_lt_of_cell? w _ hx235_3)).trans hx235_3
              replace hx235_4 := (HB.out.cell (World.block_lt_of_cell? w _ hx235_4)).trans hx235_4
              replace p235 := eq_true p235
              replace q235 := eq_true q235
              have p236 : 0 ≤ (x6_1 : Int) := of_decide_eq_true (by first | (with_reducible assumption) | assumption)
              have q236 : x6_1 < (l0.length : Int) := of_decide_eq_true (by first | (with_reducible assumption) | assumption)
              obtain ⟨ad236, e236, hx236_0, hx236_1, hx236_2, hx236_3, hx236_4⟩ := at_T47 HR0.out x6_1 p236 q236
              obtain rfl : ad235 = ad236 := (by injection e236)
              replace hx236_0 := (HB.out.cell (World.block_lt_of_cell? w _ hx236_0)).trans hx236_0
              replace hx236_1 := (HB.out.cell (World.block_lt_of_cell? w _ hx236_1)).trans hx236_1
              replace hx236_2 := (HB.out.cell (World.block_lt_of_cell? w _ hx236_2)).trans hx236_2
              replace hx236_3 := (HB.out.cell (World.block_lt_of_cell? w _ hx236_3)).trans hx236_3
              replace hx236_4 := (HB.out.cell (World.block_lt_of_cell? w _ hx236_4)).trans hx236_4
              replace p236 := eq_true p236
              replace q236 := eq_true q236
              go_wp2
              go_roundg k1
              case measure => have := HK1.out; omega
              case rel => exact ⟨(x5_1), (wrap64 (x6_1 + 1)), (by first | rfl | (simp; done) | (simp [*]; done)), H', ⟨by have := HK1.out; omega⟩, ⟨by (with_reducible repeat (first | apply Kd.R_alloc | apply Kd.R_drewN | apply Kd.R_drew)); exact HO_5.out⟩, ⟨by repeat (first | (with_reducible first | exact HB.out | apply below_alloc | apply pw_below_drewN | apply below_drew1) | exact HB.out)⟩⟩
            · rw [if_neg c8] at H
              have c8b0 : (((rd_T47 l0 x6_1).f2) == a1) = false := beq_eq_false_iff_ne.mpr c8
              have c8b1 : (((rd_T47 l0 x6_1).f2) != a1) = true := bne_iff_ne.mpr c8
              by_cases c9 : x5_1.length < 3518437208883
              · rw [if_pos c9] at H
                have LMc9 := Aside0.mk c9
                clear c9
                obtain ⟨y238, hy238⟩ : ∃ y_ : List (S47), y_ = (x5_1 ++ [(⟨(rd_T47 l0 x6_1).f0, (rd_T47 l0 x6_1).f1, (rd_T47 l0 x6_1).f2, (rd_T47 l0 x6_1).f3, (rd_T47 l0 x6_1).f4⟩ : S47)]) := ⟨_, rfl⟩
                replace H : (squintlaw13_without.l0 k1 l0 a1 y238 (wrap64 (x6_1 + 1))) = some r := by first | (rw [hy238]; with_reducible exact H) | (have H2_ := (Option.bind_some _ _).symm.trans H; rw [hy238]; with_reducible exact H2_) | (have H2_ := (Option.bind_some _ _).symm.trans H; with_reducible exact H2_) | with_reducible exact H | (rw [hy238]; exact H) | exact H
                have Ny238 := Aside0.mk hy238
                clear hy238
                have H' := Aside0.mk H
                clear H
                have p235 : 0 ≤ (x6_1 : Int) := of_decide_eq_true (by first | (with_reducible assumption) | assumption)
                have q235 : x6_1 < (l0.length : Int) := of_decide_eq_true (by first | (with_reducible assumption) | assumption)
                obtain ⟨ad235, e235, hx235_0, hx235_1, hx235_2, hx235_3, hx235_4⟩ := at_T47 HR0.out x6_1 p235 q235
                cases e235
                replace hx235_0 := (HB.out.cell (World.block_lt_of_cell? w _ hx235_0)).trans hx235_0
                replace hx235_1 := (HB.out.cell (World.block_lt_of_cell? w _ hx235_1)).trans hx235_1
                replace hx235_2 := (HB.out.cell (World.block_lt_of_cell? w _ hx235_2)).trans hx235_2
                replace hx235_3 := (HB.out.cell (World.block_lt_of_cell? w _ hx235_3)).trans hx235_3
                replace hx235_4 := (HB.out.cell (World.block_lt_of_cell? w _ hx235_4)).trans hx235_4
                replace p235 := eq_true p235
                replace q235 := eq_true q235
                have p236 : 0 ≤ (x6_1 : Int) := of_decide_eq_true (by first | (with_reducible assumption) | assumption)
                have q236 : x6_1 < (l0.length : Int) := of_decide_eq_true (by first | (with_reducible assumption) | assumption)
                obtain ⟨ad236, e236, hx236_0, hx236_1, hx236_2, hx236_3, hx236_4⟩ := at_T47 HR0.out x6_1 p236 q236
                obtain rfl : ad235 = ad236 := (by injection e236)
                replace hx236_0 := (HB.out.cell (World.block_lt_of_cell? w _ hx236_0)).trans hx236_0
                replace hx236_1 := (HB.out.cell (World.block_lt_of_cell? w _ hx236_1)).trans hx236_1
                replace hx236_2 := (HB.out.cell (World.block_lt_of_cell? w _ hx236_2)).trans hx236_2
                replace hx236_3 := (HB.out.cell (World.block_lt_of_cell? w _ hx236_3)).trans hx236_3
                replace hx236_4 := (HB.out.cell (World.block_lt_of_cell? w _ hx236_4)).trans hx236_4
                replace p236 := eq_true p236
                replace q236 := eq_true q236
                have p237 : 0 ≤ (x6_1 : Int) := of_decide_eq_true (by first | (with_reducible assumption) | assumption)
                have q237 : x6_1 < (l0.length : Int) := of_decide_eq_true (by first | (with_reducible assumption) | assumption)
                obtain ⟨ad237, e237, hx237_0, hx237_1, hx237_2, hx237_3, hx237_4⟩ := at_T47 HR0.out x6_1 p237 q237
                obtain rfl : ad235 = ad237 := (by injection e237)
                replace hx237_0 := (HB.out.cell (World.block_lt_of_cell? w _ hx237_0)).trans hx237_0
                replace hx237_1 := (HB.out.cell (World.block_lt_of_cell? w _ hx237_1)).trans hx237_1
                replace hx237_2 := (HB.out.cell (World.block_lt_of_cell? w _ hx237_2)).trans hx237_2
                replace hx237_3 := (HB.out.cell (World.block_lt_of_cell? w _ hx237_3)).trans hx237_3
                replace hx237_4 := (HB.out.cell (World.block_lt_of_cell? w _ hx237_4)).trans hx237_4
                replace p237 := eq_true p237
                replace q237 := eq_true q237
                go_wp2_with (first | ((with_reducible refine gate_builtin (b := .append) (xs := #[.tmp 30, .tmp 35]) rfl ?_); at_builtin; refine Kd.R_append k47 (w0 := w) w.heap.size rfl (.tmp 30) (.tmp 35) 33 47 (.agg #[(.int .i64 0), (.int .i64 0), (.int .i64 0), (.int .i64 0), (.int .i64 0)]) 40 rfl Try.underlying33 info47 rfl (by decide) (by omega) u5 x5_1 (⟨(rd_T47 l0 x6_1).f0, (rd_T47 l0 x6_1).f1, (rd_T47 l0 x6_1).f2, (rd_T47 l0 x6_1).f3, (rd_T47 l0 x6_1).f4⟩ : S47) [.int .i64 ((rd_T47 l0 x6_1).f0), .int .i64 ((rd_T47 l0 x6_1).f1), .int .i64 ((rd_T47 l0 x6_1).f2), .int .i64 ((rd_T47 l0 x6_1).f3), .int .i64 ((rd_T47 l0 x6_1).f4)] (fun _ => True) (fun _ => False) rfl rfl ?aP (fun _ hk => hk.elim) ?aF ?aO ?aB ?aS ?aL ?_; (case aP => exact k47_mkM _ _ _ (⟨(rd_T47 l0 x6_1).f0, (rd_T47 l0 x6_1).f1, (rd_T47 l0 x6_1).f2, (rd_T47 l0 x6_1).f3, (rd_T47 l0 x6_1).f4⟩ : S47)); (case aB => exact (by repeat (first | (with_reducible first | exact HB.out | apply below_alloc | apply pw_below_drewN | apply below_drew1) | exact HB.out))); (case aF => exact (fun _ _ => trivial)); (case aO => exact (by (with_reducible repeat (first | apply Kd.R_alloc | apply Kd.R_drewN | apply Kd.R_drew)); exact HO_5.out)); (case aS => exact (below_size (by repeat (first | (with_reducible first | exact HB.out | apply below_alloc | apply pw_below_drewN | apply below_drew1) | exact HB.out)))); (case aL => have := LMc9.out; omega); intro v239 w10 ho hb hg hat; rw [← Ny238.out] at ho; have n0_ := Aside0.mk (hb); have n1_ := Aside0.mk (ho); clear HB; clear HO_5; have HB := n0_; have HO240 := n1_; clear n0_ n1_; clear ho hb hg hat))
                go_roundg k1
                case measure => have := HK1.out; omega
                case rel => exact ⟨(y238), (wrap64 (x6_1 + 1)), (by first | rfl | (simp; done) | (simp [*]; done)), H', ⟨by have := HK1.out; omega⟩, ⟨by (with_reducible repeat (first | apply Kd.R_alloc | apply Kd.R_drewN | apply Kd.R_drew)); exact HO240.out⟩, ⟨by repeat (first | (with_reducible first | exact HB.out | apply below_alloc | apply pw_below_drewN | apply below_drew1) | exact HB.out)⟩⟩
              · rw [if_neg c9] at H
                exact absurd H (by simp)
        · rw [if_neg c6] at H
          exact absurd H (by simp)
      · rw [if_neg c5] at H
        have c5b0 : decide (x6_1 < (l0.length : Int)) = false := decide_eq_false c5
        clear c5
        obtain rfl := Option.some.inj H
        go_wp2
        go_ret
        exact ⟨_, by first | rfl | (simp [errW_none, errW_some] <;> rfl) | (simp [*, errW_none, errW_some] <;> rfl), by (with_reducible repeat (first | apply Kd.R_alloc | apply Kd.R_drewN | apply Kd.R_drew)); exact HO_5.out, by repeat (first | (with_reducible first | exact HB.out | apply below_alloc | apply pw_below_drewN | apply below_drew1) | exact HB.out)⟩
end Go.Proofs.Ytokbonceeglciaa.Print
end
section
namespace Go.Proofs.Ytokbonceeglciaa.Given
open Go.RowKit Go.Shelf Go.Proofs.YtokbonceeglciaaW.PrintWords Go.Proofs.YtokbonceeglciaaW.PrintLast Go.Proofs.YtokbonceeglciaaW.PrintMore Go.Proofs.Ytokbonceeglciaa.Print
set_option linter.unusedVariables false
set_option linter.unusedSimpArgs false
section
variable (l : List S38) (hm : l.length ≤ 4611686018427387904) (ha : ∀ x ∈ l, x.f1.length ≤ 4611686018427387904)
include ha in
end
theorem sameP_loop (l : List S47) (hl : l.length ≤ 4611686018427387904) : ∀ (d n : Nat), n + d = l.length → Ev (fun k => squintlaw13_same.l0 k l l (n : Int)) true
  | 0, n, hd => Ev.done fun k => by
    unfold squintlaw13_same.l0
    rw [if_neg (by omega)]
  | d + 1, n, hd => by
    refine (sameP_loop l hl d (n + 1) (by omega)).step fun k => ?_
    show squintlaw13_same.l0 (k + 1) l l (n : Int) = _
    conv => lhs; unfold squintlaw13_same.l0
    rw [if_pos (by omega), if_pos (by omega), if_pos (by omega), if_neg (by simp), wrap_succ n (by omega)]
theorem sameP_self (l : List S47) (hl : l.length ≤ 4611686018427387904) : ∃ k, squintlaw13_same.f k l l = some true := by
  obtain ⟨k, hk⟩ := (sameP_loop l hl l.length 0 (by omega)).get
  refine ⟨k, ?_⟩
  unfold squintlaw13_same.f
  rw [if_pos rfl]
  exact hk
theorem beyond_loop (l : List S38) (hm : l.length ≤ 4611686018427387904) (ha : ∀ x ∈ l, x.f1.length ≤ 4611686018427387904) : ∀ (d i n : Nat), i + d = l.length → n ≤ 4611686018427387904 → ∃ b, Ev (fun k => squintlaw13_beyond.l0 k l (n : Int) (i : Int)) b ∧ (b = false → n + arms (l.drop i) ≤ 4000)
  | 0, i, n, hd, hn => by
    refine ⟨decide (n > 4000), ?_, fun h => ?_⟩
    · refine Ev.step (g := fun k => squintlaw13_beyond.j1 k l (n : Int) (i : Int) false) (Ev.done fun k => ?_) fun k => ?_
      · show squintlaw13_beyond.j1 (k + 1) l (n : Int) (i : Int) false = _
        rw [squintlaw13_beyond.j1, if_neg (by simp)]
        congr 1
        exact decide_eq_decide.2 (by omega)
      · show squintlaw13_beyond.l0 (k + 1) l (n : Int) (i : Int) = _
        rw [squintlaw13_beyond.l0, if_neg (by omega)]
    · rw [List.drop_eq_nil_of_le (by omega)]
      have := of_decide_eq_false h
      simp only [arms, List.map_nil, List.sum_nil]
      omega
  | d + 1, i, n, hd, hn => by
    have hi : i < l.length := by omega
    have hil := ha l[i] (List.getElem_mem hi)
    have e0 : ∀ k, squintlaw13_beyond.l0 (k + 1) l (n : Int) (i : Int) = squintlaw13_beyond.j1 k l (n : Int) (i : Int) (decide ((n : Int) ≤ 4000)) := fun k => by
      rw [squintlaw13_beyond.l0, if_pos (by omega)]
    by_cases hle : n ≤ 4000
    · by_cases hbig : l[i].f1.length > 4000
      · refine ⟨true, Ev.step (g := fun k => squintlaw13_beyond.j1 k l (n : Int) (i : Int) (decide ((n : Int) ≤ 4000))) (Ev.done fun k => ?_) e0, fun h => by cases h⟩
        show squintlaw13_beyond.j1 (k + 1) l (n : Int) (i : Int) _ = _
        rw [squintlaw13_beyond.j1, if_pos (decide_eq_true (by omega)), if_pos (by omega), if_pos (by omega), rd38 hi, if_pos (by omega)]
      · obtain ⟨b, hb, hb2⟩ := beyond_loop l hm ha d (i + 1) (n + l[i].f1.length) (by omega) (by omega)
        refine ⟨b, Ev.step (g := fun k => squintlaw13_beyond.j1 k l (n : Int) (i : Int) (decide ((n : Int) ≤ 4000))) (hb.step fun k => ?_) e0, fun h => ?_⟩
        · show squintlaw13_beyond.j1 (k + 1) l (n : Int) (i : Int) _ = _
          have e1 : wrap64 ((n : Int) + (l[i].f1.length : Int)) = ((n + l[i].f1.length : Nat) : Int) := by simp only [wrap64]; omega
          rw [squintlaw13_beyond.j1, if_pos (decide_eq_true (by omega)), if_pos (by omega), if_pos (by omega), rd38 hi, if_neg (by omega), e1, wrap_succ i (by omega)]
        · have := hb2 h
          rw [List.drop_eq_getElem_cons hi]
          simp only [arms, List.map_cons, List.sum_cons] at this ⊢
          omega
    · refine ⟨true, Ev.step (g := fun k => squintlaw13_beyond.j1 k l (n : Int) (i : Int) (decide ((n : Int) ≤ 4000))) (Ev.done fun k => ?_) e0, fun h => by cases h⟩
      show squintlaw13_beyond.j1 (k + 1) l (n : Int) (i : Int) _ = _
      have hd2 : decide ((n : Int) ≤ 4000) = false := decide_eq_false (by omega)
      rw [squintlaw13_beyond.j1, hd2, if_neg (by simp)]
      congr 1
      exact decide_eq_true (by omega)
theorem beyond_says (l : List S38) (hm : l.length ≤ 4611686018427387904) (ha : ∀ x ∈ l, x.f1.length ≤ 4611686018427387904) : ∃ b k, squintlaw13_beyond.f k l = some b ∧ (b = false → l.length + arms l ≤ 4000) := by
  obtain ⟨b, hb, h2⟩ := beyond_loop l hm ha l.length 0 l.length (by omega) hm
  obtain ⟨k, hk⟩ := hb.get
  rw [List.drop_zero] at h2
  exact ⟨b, k, hk, h2⟩
theorem arm_loop (l : List S38) (hm : l.length ≤ 4611686018427387904) (id : Int) (n : Nat) (p : Nat) (hp : p < l.length) (hid : l[p].f0 = id) (hn : n < l[p].f1.length) (hbef : ∀ t (ht : t < l.length), t < p → l[t].f0 ≠ id) : ∀ (d i : Nat), i + d = p →
    Ev (fun k => squintlaw13_arm.l0 k l id (n : Int) (i : Int)) (l[p].f1[n].f0, l[p].f1[n].f1, l[p].f1[n].f2.f0, l[p].f1[n].f2.f1, l[p].f1[n].f2.f2)
  | 0, i, hd => by
    obtain rfl : i = p := by omega
    refine Ev.done fun k => ?_
    show squintlaw13_arm.l0 (k + 1) l id (n : Int) (i : Int) = _
    rw [squintlaw13_arm.l0, if_pos (by omega), if_pos (by omega), rd38 hp, if_pos hid, if_pos (by omega), if_pos (by omega), if_pos (by omega), rd43 hn]
  | d + 1, i, hd => by
    refine (arm_loop l hm id n p hp hid hn hbef d (i + 1) (by omega)).step fun k => ?_
    show squintlaw13_arm.l0 (k + 1) l id (n : Int) (i : Int) = _
    have hi : i < l.length := by omega
    conv => lhs; rw [squintlaw13_arm.l0]
    rw [if_pos (by omega), if_pos (by omega), rd38 hi, if_neg (hbef i hi (by omega)), wrap_succ i (by omega)]
theorem arm_says {l : List S38} (hm : l.length ≤ 4611686018427387904) (hs : l.Pairwise (fun x y => x.f0 < y.f0)) {p : S38} (hp : p ∈ l) {n : Nat} {a : S43} (hn : p.f1[n]? = some a) : ∃ k, squintlaw13_arm.f k l p.f0 (n : Int) = some (a.f0, a.f1, a.f2.f0, a.f2.f1, a.f2.f2) := by
  obtain ⟨i, hi, rfl⟩ := List.mem_iff_getElem.1 hp
  obtain ⟨hn1, rfl⟩ := List.getElem?_eq_some_iff.1 hn
  refine (arm_loop l hm l[i].f0 n i hi rfl hn1 (fun t ht hlt e => ?_) i 0 (by omega)).get
  have := ids_at hs (List.getElem?_eq_getElem ht) (List.getElem?_eq_getElem hi) e
  omega
theorem without_loop (a : List S47) (id : Int) (hm : a.length ≤ 1000000000000) : ∀ (d i : Nat) (out : List S47), i + d = a.length → out.length ≤ i → Ev (fun k => squintlaw13_without.l0 k a id out (i : Int)) (out ++ (a.drop i).filter (fun x => x.f0 != id && x.f2 != id))
  | 0, i, out, hd, ho => Ev.done fun k => by
    show squintlaw13_without.l0 (k + 1) a id out (i : Int) = _
    rw [squintlaw13_without.l0, if_neg (by omega), List.drop_eq_nil_of_le (by omega), List.filter_nil, List.append_nil]
  | d + 1, i, out, hd, ho => by
    have hi : i < a.length := by omega
    rw [List.drop_eq_getElem_cons hi, List.filter_cons]
    by_cases h1 : a[i].f0 = id
    · rw [if_neg (by simp [h1])]
      refine (without_loop a id hm d (i + 1) out (by omega) (by omega)).step fun k => ?_
      show squintlaw13_without.l0 (k + 1) a id out (i : Int) = _
      conv => lhs; rw [squintlaw13_without.l0]
      rw [if_pos (by omega), if_pos (by omega), rd47 hi, if_pos h1, wrap_succ i (by omega)]
    · by_cases h2 : a[i].f2 = id
      · rw [if_neg (by simp [h2])]
        refine (without_loop a id hm d (i + 1) out (by omega) (by omega)).step fun k => ?_
        show squintlaw13_without.l0 (k + 1) a id out (i : Int) = _
        conv => lhs; rw [squintlaw13_without.l0]
        rw [if_pos (by omega), if_pos (by omega), rd47 hi, if_neg h1, if_pos h2, wrap_succ i (by omega)]
      · rw [if_pos (by simp [h1, h2])]
        have ih := without_loop a id hm d (i + 1) (out ++ [a[i]]) (by omega) (by simp; omega)
        rw [List.append_assoc] at ih
        refine ih.step fun k => ?_
        show squintlaw13_without.l0 (k + 1) a id out (i : Int) = _
        conv => lhs; rw [squintlaw13_without.l0]
        rw [if_pos (by omega), if_pos (by omega), rd47 hi, if_neg h1, if_neg h2, if_pos (by omega), wrap_succ i (by omega)]
theorem without_says (a : List S47) (id : Int) (hm : a.length ≤ 1000000000000) : ∃ k, squintlaw13_without.f k a id = some (a.filter (fun x => x.f0 != id && x.f2 != id)) := by
  have := without_loop a id hm a.length 0 [] (by omega) (by simp)
  rw [List.drop_zero, List.nil_append] at this
  exact this.get
end Go.Proofs.Ytokbonceeglciaa.Given
end
section
namespace Go.Proofs.Ytokbonceeglciaa.Given
open Go.RowKit Go.Proofs.YtokbonceeglciaaW.PrintWords
set_option linter.unusedVariables false
set_option linter.unusedSimpArgs false
def seg (cs : List Value) (s j : Nat) : List Value := (cs.drop (j * s)).take s
theorem seg_left {cs ds : List Value} {s j : Nat} (h : (j + 1) * s ≤ cs.length) : seg (cs ++ ds) s j = seg cs s j := by
  unfold seg
  rw [Nat.add_mul, Nat.one_mul] at h
  rw [List.drop_append_of_le_length (by omega), List.take_append_of_le_length (by rw [List.length_drop]; omega)]
theorem seg_right {cs ds : List Value} {s j : Nat} (h : cs.length = j * s) (hd : ds.length = s) : seg (cs ++ ds) s j = ds := by
  unfold seg
  rw [← h, List.drop_left, List.take_of_length_le (by omega)]
theorem seg_last {cs ds es : List Value} {s j : Nat} (h : cs.length = j * s) (hd : ds.length = s) : seg (cs ++ (ds ++ es)) s j = ds := by
  unfold seg
  rw [← h, List.drop_left, List.take_append_of_le_length (by omega), List.take_of_length_le (by omega)]
theorem seg_get {cs : List Value} {s j i : Nat} (hi : i < s) : (seg cs s j)[i]? = cs[j * s + i]? := by
  unfold seg
  rw [List.getElem?_take, if_pos hi, List.getElem?_drop]
theorem add0 (g n : Nat) : (⟨g, 0, none⟩ : Addr).add n = ⟨g, n, none⟩ := by simp [Addr.add]; omega
section
variable {α : Type} {d : Kd α} {w : World} {A : Option Addr} {xs : List α}
theorem C_flat (h : d.C w A xs.length xs) (hp : 0 < xs.length) : ∃ (ad : Addr) (cs : List Value), A = some ad ∧ cs.length = xs.length * d.sz ∧ (∀ i u, cs[i]? = some u → w.cell? (ad.add i) = some u) ∧ (∀ u ∈ cs, u.oneCell' = true) ∧ ∀ (j : Nat) (x : α), xs[j]? = some x → d.K w x (seg cs d.sz j) := by
  obtain ⟨_, _, h3⟩ := h
  obtain ⟨ad, rfl, hc⟩ := h3 hp
  have key : ∀ n, n ≤ xs.length → ∃ cs : List Value, cs.length = n * d.sz ∧ (∀ i u, cs[i]? = some u → w.cell? (ad.add i) = some u) ∧ (∀ u ∈ cs, u.oneCell' = true) ∧ ∀ (j : Nat) (x : α), j < n → xs[j]? = some x → d.K w x (seg cs d.sz j) := by
    intro n
    induction n with
    | zero => exact fun _ => ⟨[], by simp, by simp, by simp, fun j x hj => by omega⟩
    | succ n ih =>
      intro hn
      obtain ⟨cs, h1, h2, h3, h4⟩ := ih (by omega)
      obtain ⟨c, hcl, hK, hcc⟩ := hc n xs[n] (List.getElem?_eq_getElem (by omega))
      refine ⟨cs ++ c, by rw [List.length_append, h1, hcl, Nat.add_mul, Nat.one_mul], fun i u hu => ?_, fun u hu => ?_, fun j x hj hx => ?_⟩
      · by_cases hi : i < cs.length
        · rw [List.getElem?_append_left hi] at hu
          exact h2 i u hu
        · rw [List.getElem?_append_right (by omega)] at hu
          have := hcc _ u hu
          rwa [show n * d.sz + (i - cs.length) = i by omega] at this
      · rcases List.mem_append.1 hu with hu | hu
        · exact h3 u hu
        · exact d.K_one hK u hu
      · by_cases hjn : j < n
        · rw [seg_left (by rw [h1]; exact Nat.mul_le_mul_right _ hjn)]
          exact h4 j x hjn hx
        · obtain rfl : j = n := by omega
          rw [seg_right h1 hcl]
          rw [List.getElem?_eq_getElem (by omega)] at hx
          injection hx with hx
          rw [← hx]
          exact hK
  obtain ⟨cs, h1, h2, h3, h4⟩ := key xs.length (Nat.le_refl _)
  exact ⟨ad, cs, rfl, h1, h2, h3, fun j x hx => h4 j x (List.getElem?_eq_some_iff.1 hx).1 hx⟩
theorem blk_C {g : Nat} {t : TypeId} {cs : List Value} (h : w.heap[g]? = some (.cells cs.toArray t (0, 0))) (hm : xs.length ≤ 9223372036854775807) (hk : ∀ (j : Nat) (x : α), xs[j]? = some x → d.K w x (seg cs d.sz j)) : d.C w (some ⟨g, 0, none⟩) xs.length xs := by
  refine ⟨rfl, hm, fun _ => ⟨_, rfl, fun j p hj => ⟨_, d.K_len (hk j p hj), hk j p hj, fun i u hu => ?_⟩⟩⟩
  have hi : i < d.sz := by
    have := (List.getElem?_eq_some_iff.1 hu).1
    rw [d.K_len (hk j p hj)] at this
    exact this
  rw [seg_get hi] at hu
  rw [add0, blk_cell h, List.getElem?_toArray]
  exact hu
end
theorem run_copy_sz {P : Program} (w : World) (dT sT ty elem : TypeId) (g o dLen dCap : Nat) (a : Addr) (sLen sCap size : Nat) (cur : Array Value) (t : TypeId) (cs : List Value)
    (hu : P.underlying dT = some (.slice elem)) (hs : (P.info? elem).map (·.size) = some size)
    (hg : w.heap[g]? = some (.cells cur t (0, 0))) (hn : cs.length = Nat.min sLen dLen * size)
    (hsrc : ∀ j v, cs[j]? = some v → w.cell? (a.add j) = some v) (hfit : o + cs.length ≤ cur.size) (h1 : ∀ v ∈ cs, v.oneCell' = true) :
    (Builtin.copy_ #[dT, sT] ty #[.slice (some ⟨g, o, none⟩) dLen dCap, .slice (some a) sLen sCap]).run P w =
      .ok (goInt (Nat.min sLen dLen)) (w.setRow g (cur.toList.take o ++ cs ++ cur.toList.drop (o + cs.length)).toArray) := by
  have hl := run_loadCells_list (P := P) w a cs hsrc
  have hst := run_storeCells_at P g o t cs 0 cur w hg (by simpa using hfit) h1
  cases hq : P.info? elem with
  | none => simp [hq] at hs
  | some i =>
    have hi : i.size = size := by simpa [hq] using hs
    simp [Builtin.copy_, run_underlying hu, Builtin.lenOf, Builtin.firstCells, sizeOf, typeInfo, hq, hi, ← hn, hl, hst]
theorem run_copy_sz0 {P : Program} (w : World) (dT sT ty elem : TypeId) (d : Option Addr) (dLen dCap : Nat) (a : Option Addr) (sCap size : Nat) (hu : P.underlying dT = some (.slice elem)) (hs : (P.info? elem).map (·.size) = some size) :
    (Builtin.copy_ #[dT, sT] ty #[.slice d dLen dCap, .slice a 0 sCap]).run P w = .ok (goInt 0) w := by
  cases hq : P.info? elem with
  | none => simp [hq] at hs
  | some i =>
    have hl : ∀ (x : Addr), (loadCells x 0).run P w = .ok #[] w := fun x => by simpa using run_loadCells_list (P := P) w x [] (by simp)
    cases d <;> cases a <;> simp [Builtin.copy_, run_underlying hu, Builtin.lenOf, Builtin.firstCells, sizeOf, typeInfo, hq, storeCells, hl]
end Go.Proofs.Ytokbonceeglciaa.Given
end
section
namespace Go.Proofs.Ytokbonceeglciaa.Given
open Go.RowKit Go.Proofs.YtokbonceeglciaaW.PrintWords
set_option linter.unusedVariables false
set_option linter.unusedSimpArgs false
def Stays (W w1 : World) (e size : Nat) (v : Value) (n : Nat) (v1 : Value) : Prop :=
  (∃ p cap, v = .slice (some p) n cap ∧ v1 = .slice (some p) (n + 1) cap ∧ ∀ b m inner, m ≤ n → W.ownsRow b e size (.slice (some p) m cap) m inner → w1.ownsRow b e size (.slice (some p) m cap) m inner)
  ∨ (W.grownBy w1 none ∧ ∃ b, v1.ownBlock = some b ∧ W.heap.size ≤ b)
section
variable {P : Program} {ops : Array Oper} {rest : List Oper} {o : Oper} {a : Act} {Q : Exit → Act → World → Prop} {Kc : Act → World → Prop}
end
structure Ext (W w : World) (e size : Nat) (v : Value) (n : Nat) : Prop where
  grown : W.grownBy w v.ownBlock
  stays : ∀ b inner, W.ownsRow b e size v n inner → w.ownsRow b e size v n inner
def Side (top : Nat) (v : Value) (n : Nat) (vc : Value) (m : Nat) : Prop :=
  (∃ p cap, v = .slice (some p) n cap ∧ vc = .slice (some p) m cap ∧ n ≤ m) ∨ ∀ k, vc.ownBlock = some k → top ≤ k
theorem Ext.refl (W : World) (e size : Nat) (v : Value) (n : Nat) : Ext W W e size v n := ⟨⟨rfl, rfl, rfl, Nat.le_refl _, fun _ _ _ => rfl⟩, fun _ _ h => h⟩
theorem Side.refl {A : Option Addr} {top n cap : Nat} : Side top (.slice A n cap) n (.slice A n cap) n := by
  cases A with
  | none => exact .inr (fun k hk => by simp [Value.ownBlock] at hk)
  | some p => exact .inl ⟨p, cap, rfl, rfl, Nat.le_refl _⟩
theorem Ext.step {W0 W w1 : World} {e size n m : Nat} {v vc v1 : Value} (hx : Ext W0 W e size v n) (hs : Side W0.heap.size v n vc m) (hg : W.grownBy w1 vc.ownBlock) (hst : Stays W w1 e size vc m v1) : Ext W0 w1 e size v n ∧ Side W0.heap.size v n v1 (m + 1) := by
  have hsz := hx.grown.size
  rcases hst with ⟨p, cap, rfl, rfl, hk⟩ | ⟨hg2, b, hv1, hb⟩
  · rcases hs with ⟨p', cap', rfl, h2, hn⟩ | hs
    · injection h2 with e1 _ e3
      injection e1 with e1
      subst e1 e3
      have ho : (Value.slice (some p) n cap).ownBlock = (Value.slice (some p) m cap).ownBlock := rfl
      refine ⟨⟨?_, fun b inner hI => hk b n inner hn (hx.stays b inner hI)⟩, .inl ⟨p, cap, rfl, rfl, by omega⟩⟩
      rw [ho]
      exact World.grownBy.trans (by rw [← ho]; exact hx.grown) hg
    · have hp := hs p.block rfl
      refine ⟨⟨⟨hg.os.trans hx.grown.os, hg.tape.trans hx.grown.tape, hg.output.trans hx.grown.output, Nat.le_trans hsz hg.size, fun k hk hne => ?_⟩, fun b inner hI => ?_⟩, .inr hs⟩
      · refine (hg.block k (by omega) (fun he => ?_)).trans (hx.grown.block k hk hne)
        simp [Value.ownBlock] at he
        omega
      · refine (hx.stays b inner hI).kept hg ?_
        right
        intro he
        have := (hI.lt p.block (by rw [he]; rfl)).2
        omega
  · have hall : W0.grownBy w1 v.ownBlock := ⟨hg2.os.trans hx.grown.os, hg2.tape.trans hx.grown.tape, hg2.output.trans hx.grown.output, Nat.le_trans hsz hg2.size, fun k hk hne => (hg2.block k (by omega) (by simp)).trans (hx.grown.block k hk hne)⟩
    refine ⟨⟨hall, fun b inner hI => (hx.stays b inner hI).kept hg2 (by cases v.ownBlock <;> simp)⟩, .inr (fun k hk => ?_)⟩
    rw [hv1] at hk
    injection hk with hk
    omega
theorem R_stay {α : Type} {d : Kd α} {e base : Nat} {ok : Nat → Prop} {W w : World} {v : Value} {xs : List α} (h : d.R e W base ok v xs) (hx : Ext W w e d.sz v xs.length) : d.R e w base ok v xs := by
  obtain ⟨h0, inner, ho, hr⟩ := h
  refine ⟨h0, inner, hx.stays _ _ ho, hr.imp_ (fun p c hp => ?_)⟩
  exact Kd.M_step hp (fun k hk hlt => hx.grown.block k hlt hk.2)
end Go.Proofs.Ytokbonceeglciaa.Given
end
section
namespace Go.Proofs.Ytokbonceeglciaa.Bk
open Go.RowKit Go.Proofs.YtokbonceeglciaaW.PrintWords Go.Proofs.Ytokbonceeglciaa.Given
set_option linter.unusedVariables false
set_option linter.unusedSimpArgs false
abbrev Any : Nat → Prop := fun _ => True
def KT (t : TypeId) (w w' : World) : Prop := ∀ (k : Nat) (cs : Array Value), w.heap[k]? = some (.cells cs t (0, 0)) → w'.heap[k]? = some (.cells cs t (0, 0))
theorem KT.refl (t : TypeId) (w : World) : KT t w w := fun _ _ h => h
theorem KT.trans {t : TypeId} {w w1 w2 : World} (h : KT t w w1) (k : KT t w1 w2) : KT t w w2 := fun a cs ha => k a cs (h a cs ha)
theorem KT.below {t : TypeId} {w w1 : World} (h : Below w.heap.size w w1) : KT t w w1 := fun k cs hk => blk_below hk h
theorem KT.grown {t e : TypeId} {w w1 : World} {v : Value} (hg : w.grownBy w1 v.ownBlock) (hty : ∀ k, v.ownBlock = some k → ∃ cells, w.heap[k]? = some (.cells cells e (0, 0))) (hne : t ≠ e) : KT t w w1 := fun k cs hk =>
  blk_grown hk hg (fun he => by
    obtain ⟨cells, hc⟩ := hty k he.symm
    rw [hk] at hc
    injection hc with hc
    injection hc with _ h2
    exact hne h2)
theorem KT.set {t e : TypeId} {w : World} {g : Nat} {cs0 : Array Value} (hb : w.heap[g]? = some (.cells cs0 e (0, 0))) (hne : t ≠ e) (j : Nat) (u : Value) : KT t w (w.setCell ⟨g, j, none⟩ u) := fun k cs hk =>
  (Below.heap_setCell w ⟨g, j, none⟩ u k (fun he => by
    have he : k = g := he
    subst he
    rw [hk] at hb
    injection hb with hb
    injection hb with _ h2
    exact hne h2)).trans hk
section
variable {α : Type} {d : Kd α} {e base : Nat} {ok : Nat → Prop} {w w1 : World} {v : Value} {xs : List α}
theorem R_kt (hE : d.E = []) (h : d.R e w base ok v xs) (hk : KT e w w1) : d.R e w1 base ok v xs := by
  have h1 := Kd.R_step (w1 := w1) (Kd.R_tight hE h) (fun k ho _ => by
    obtain ⟨cells, hc⟩ := Kd.R_typed h k ho.symm
    rw [hc, hk k cells hc])
  exact Kd.R_mono h1 (fun k hk => h.1 k hk.symm)
theorem R_own_kept (hE : d.E = []) (h : d.R e w base ok v xs) (hk : ∀ k, v.ownBlock = some k → w1.heap[k]? = w.heap[k]?) : d.R e w1 base ok v xs :=
  Kd.R_mono (Kd.R_step (w1 := w1) (Kd.R_tight hE h) (fun k ho _ => hk k ho.symm)) (fun k hk => h.1 k hk.symm)
theorem R_other (hE : d.E = []) (h : d.R e w base ok v xs) {row : Option Nat} (hg : w.grownBy w1 row) (hne : ∀ k, v.ownBlock = some k → row ≠ some k) : d.R e w1 base ok v xs :=
  R_own_kept hE h (fun k hk => hg.block k (Kd.R_lt h k hk) (fun he => hne k hk he.symm))
end
def Parted (l : List Value) : Prop := ∀ (p q : Nat) (u v : Value), l[p]? = some u → l[q]? = some v → p ≠ q → ∀ k, u.ownBlock = some k → v.ownBlock ≠ some k
structure Book (w : World) (g base tb eo : Nat) (vo vw : Value) (fr : Int) (ol wl : List Value) : Prop where
  low : base ≤ g
  blk : w.heap[g]? = some (.cells #[vo, vw, .int .i64 fr] tb (0, 0))
  ro : (Kd.raw 1).R eo w base Any vo (ol.map (fun v => [v]))
  rw : (Kd.raw 1).R eo w base Any vw (wl.map (fun v => [v]))
  ap : ∀ k, vo.ownBlock = some k → vw.ownBlock ≠ some k
theorem Book.kt {w w1 : World} {g base tb eo : Nat} {vo vw : Value} {fr : Int} {ol wl : List Value} (h : Book w g base tb eo vo vw fr ol wl) (h1 : KT tb w w1) (h2 : KT eo w w1) : Book w1 g base tb eo vo vw fr ol wl :=
  ⟨h.low, h1 _ _ h.blk, R_kt rfl h.ro h2, R_kt rfl h.rw h2, h.ap⟩
structure Kept (ok : Nat → Prop) (W w : World) : Prop where
  os : w.os = W.os
  tape : w.tape = W.tape
  output : w.output = W.output
  size : W.heap.size ≤ w.heap.size
  block : ∀ k, k < W.heap.size → ¬ ok k → w.heap[k]? = W.heap[k]?
theorem Kept.refl (ok : Nat → Prop) (W : World) : Kept ok W W := ⟨rfl, rfl, rfl, Nat.le_refl _, fun _ _ _ => rfl⟩
theorem Kept.grown {ok : Nat → Prop} {W w w1 : World} {row : Option Nat} (h : Kept ok W w) (hg : w.grownBy w1 row) (hok : ∀ k, row = some k → ok k ∨ W.heap.size ≤ k) : Kept ok W w1 :=
  ⟨hg.os.trans h.os, hg.tape.trans h.tape, hg.output.trans h.output, Nat.le_trans h.size hg.size, fun k hk hn => (hg.block k (Nat.lt_of_lt_of_le hk h.size) (fun he => (hok k he.symm).elim hn (fun h2 => by omega))).trans (h.block k hk hn)⟩
theorem Kept.below {ok : Nat → Prop} {W w w1 : World} (h : Kept ok W w) (hb : Below w.heap.size w w1) : Kept ok W w1 :=
  ⟨hb.os.trans h.os, hb.tape.trans h.tape, hb.output.trans h.output, Nat.le_trans h.size hb.size, fun k hk hn => (hb.block k (Nat.lt_of_lt_of_le hk h.size)).trans (h.block k hk hn)⟩
theorem Kept.set {ok : Nat → Prop} {W w : World} (h : Kept ok W w) (g j : Nat) (u : Value) (hok : ok g) : Kept ok W (w.setCell ⟨g, j, none⟩ u) :=
  ⟨h.os, h.tape, h.output, by simpa [World.setCell] using h.size, fun k hk hn => (Below.heap_setCell w ⟨g, j, none⟩ u k (fun he => hn (by have he : k = g := he; rw [he]; exact hok))).trans (h.block k hk hn)⟩
theorem below_setG {base g : Nat} {w w1 : World} (h : Below base w w1) (hg : base ≤ g) (j : Nat) (u : Value) : Below base w (w1.setCell ⟨g, j, none⟩ u) :=
  ⟨h.os, h.tape, h.output, by simpa [World.setCell] using h.size, fun k hk => (Below.heap_setCell w1 ⟨g, j, none⟩ u k (by show k ≠ g; omega)).trans (h.block k hk)⟩
theorem raw_one (u : Value) (h : u.oneCell' = true) (w : World) (base : Nat) (ok : Nat → Prop) : (Kd.raw 1).M w base ok [u] [u] := by
  refine ⟨rfl, rfl, fun x hx => ?_⟩
  rw [List.mem_singleton] at hx
  subst hx
  exact h
structure Lists {α : Type} (d : Kd α) (w : World) (base te : Nat) (vs : List Value) (cs : List (List α)) : Prop where
  len : vs.length = cs.length
  row : ∀ (j : Nat) (v : Value) (xs : List α), vs[j]? = some v → cs[j]? = some xs → d.R te w base Any v xs
section
variable {α : Type} {d : Kd α} {base te : Nat} {w w1 : World} {vs us : List Value} {cs ds : List (List α)}
theorem Lists.get (h : Lists d w base te vs cs) {j : Nat} (hj : j < cs.length) : ∃ v xs, vs[j]? = some v ∧ cs[j]? = some xs ∧ d.R te w base Any v xs := by
  have h1 := List.getElem?_eq_getElem (l := vs) (i := j) (by rw [h.len]; exact hj)
  have h2 := List.getElem?_eq_getElem hj
  exact ⟨_, _, h1, h2, h.row j _ _ h1 h2⟩
theorem Lists.kept (hE : d.E = []) (h : Lists d w base te vs cs) (hk : ∀ (j : Nat) (v : Value), vs[j]? = some v → ∀ k, v.ownBlock = some k → k < w.heap.size → w1.heap[k]? = w.heap[k]?) : Lists d w1 base te vs cs :=
  ⟨h.len, fun j v xs h1 h2 => R_own_kept hE (h.row j v xs h1 h2) (fun k hb => hk j v h1 k hb (Kd.R_lt (h.row j v xs h1 h2) k hb))⟩
theorem Lists.kt (hE : d.E = []) (h : Lists d w base te vs cs) (hk : KT te w w1) : Lists d w1 base te vs cs := ⟨h.len, fun j v xs h1 h2 => R_kt hE (h.row j v xs h1 h2) hk⟩
theorem Lists.below (h : Lists d w base te vs cs) (hb : Below w.heap.size w w1) : Lists d w1 base te vs cs := ⟨h.len, fun j v xs h1 h2 => Kd.R_below (h.row j v xs h1 h2) hb⟩
theorem Lists.snoc (h : Lists d w base te vs cs) {v : Value} {xs : List α} (hn : d.R te w base Any v xs) : Lists d w base te (vs ++ [v]) (cs ++ [xs]) := by
  refine ⟨by simp [h.len], fun j u ys h1 h2 => ?_⟩
  by_cases hj : j < vs.length
  · rw [List.getElem?_append_left hj] at h1
    rw [List.getElem?_append_left (by rw [← h.len]; exact hj)] at h2
    exact h.row j u ys h1 h2
  · rw [List.getElem?_append_right (by omega)] at h1
    rw [List.getElem?_append_right (by rw [← h.len]; omega), ← h.len] at h2
    have : j - vs.length = 0 := by
      have := (List.getElem?_eq_some_iff.1 h1).1
      simp at this
      omega
    rw [this] at h1 h2
    injection h1 with h1
    injection h2 with h2
    subst h1 h2
    exact hn
theorem Lists.append (h : Lists d w base te vs cs) (k : Lists d w base te us ds) : Lists d w base te (vs ++ us) (cs ++ ds) := by
  refine ⟨by rw [List.length_append, List.length_append, h.len, k.len], fun j u ys h1 h2 => ?_⟩
  by_cases hj : j < vs.length
  · rw [List.getElem?_append_left hj] at h1
    rw [List.getElem?_append_left (by rw [← h.len]; exact hj)] at h2
    exact h.row j u ys h1 h2
  · rw [List.getElem?_append_right (by omega)] at h1
    rw [List.getElem?_append_right (by rw [← h.len]; omega), ← h.len] at h2
    exact k.row _ u ys h1 h2
theorem Lists.nil : Lists d w base te [] [] := ⟨rfl, fun j v xs h => by simp at h⟩
end
section
variable {α : Type} (y : Nat → α) (c : List (List α))
end
theorem Lists.lt {α : Type} {d : Kd α} {w : World} {base te : Nat} {vs : List Value} {cs : List (List α)} (h : Lists d w base te vs cs) (j : Nat) (v : Value) (hj : vs[j]? = some v) (k : Nat) (hk : v.ownBlock = some k) : k < w.heap.size ∧ base ≤ k := by
  have hl := (List.getElem?_eq_some_iff.1 hj).1
  have hr := h.row j v _ hj (List.getElem?_eq_getElem (by rw [← h.len]; exact hl))
  exact ⟨Kd.R_lt hr k hk, Kd.R_base hr k hk⟩
structure Doubles {α : Type} (d : Kd α) (w : World) (base te N0 : Nat) (ol wl : List Value) (F : List (List α)) (ol2 wl2 : List Value) (G : List (List α)) : Prop where
  a : Lists d w base te ol F
  b : Lists d w base te wl F
  c : Lists d w base te ol2 G
  e : Lists d w base te wl2 G
  lo : ∀ (j : Nat) (u : Value), ol2[j]? = some u → (∃ v, ol[j]? = some v ∧ u.ownBlock = v.ownBlock) ∨ ∀ k, u.ownBlock = some k → N0 ≤ k
  lw : ∀ (j : Nat) (u : Value), wl2[j]? = some u → ∀ k, u.ownBlock = some k → N0 ≤ k
  old : ∀ (j : Nat) (v : Value), (ol ++ wl)[j]? = some v → ∀ k, v.ownBlock = some k → k < N0
section
variable {α : Type} {d : Kd α} {base te N0 : Nat} {w w1 : World} {ol wl ol2 wl2 : List Value} {F G : List (List α)}
theorem Doubles.kt (hE : d.E = []) (h : Doubles d w base te N0 ol wl F ol2 wl2 G) (hk : KT te w w1) : Doubles d w1 base te N0 ol wl F ol2 wl2 G :=
  ⟨h.a.kt hE hk, h.b.kt hE hk, h.c.kt hE hk, h.e.kt hE hk, h.lo, h.lw, h.old⟩
theorem snoc_at {β : Type} {l : List β} {x u : β} {j : Nat} (h : (l ++ [x])[j]? = some u) : l[j]? = some u ∨ j = l.length ∧ u = x := by
  by_cases hj : j < l.length
  · rw [List.getElem?_append_left hj] at h
    exact Or.inl h
  · rw [List.getElem?_append_right (by omega)] at h
    have : j - l.length = 0 := by
      have := (List.getElem?_eq_some_iff.1 h).1
      simp at this
      omega
    rw [this] at h
    injection h with h
    exact Or.inr ⟨by omega, h.symm⟩
theorem Doubles.step (hE : d.E = []) (hp : Parted (ol ++ wl)) (h : Doubles d w base te N0 ol wl F ol2 wl2 G) {v l' m' : Value} {xs g : List α} (hv : ol[ol2.length]? = some v) (hx : F[ol2.length]? = some xs)
    (hext : Ext w w1 te d.sz v xs.length) (hl : d.R te w1 base Any l' g) (hm : d.R te w1 base Any m' g) (hsl : l'.ownBlock = v.ownBlock ∨ ∀ k, l'.ownBlock = some k → w.heap.size ≤ k) (hsm : ∀ k, m'.ownBlock = some k → w.heap.size ≤ k) (hN : N0 ≤ w.heap.size) :
    Doubles d w1 base te N0 ol wl F (ol2 ++ [l']) (wl2 ++ [m']) (G ++ [g]) := by
  have hil := (List.getElem?_eq_some_iff.1 hv).1
  have hva : (ol ++ wl)[ol2.length]? = some v := by rw [List.getElem?_append_left hil]; exact hv
  have hvo := h.old _ v hva
  have key : ∀ (u : Value) (zs : List α), d.R te w base Any u zs → (∀ k, u.ownBlock = some k → v.ownBlock ≠ some k) → d.R te w1 base Any u zs := fun u zs hr hn => R_other hE hr hext.grown hn
  have hwl : wl2.length = ol2.length := h.e.len.trans h.c.len.symm
  refine ⟨⟨h.a.len, fun j u zs h1 h2 => ?_⟩, ⟨h.b.len, fun j u zs h1 h2 => ?_⟩, Lists.snoc ⟨h.c.len, fun j u zs h1 h2 => ?_⟩ hl, Lists.snoc ⟨h.e.len, fun j u zs h1 h2 => ?_⟩ hm, fun j u h1 => ?_, fun j u h1 k hk => ?_, h.old⟩
  · by_cases hj : j = ol2.length
    · subst hj
      rw [hv] at h1
      injection h1 with h1
      subst h1
      rw [hx] at h2
      injection h2 with h2
      subst h2
      exact R_stay (h.a.row _ v xs hv hx) hext
    · have hjl := (List.getElem?_eq_some_iff.1 h1).1
      exact key u zs (h.a.row j u zs h1 h2) (fun k hk he => hp _ _ v u hva (by rw [List.getElem?_append_left hjl]; exact h1) (fun e => hj e.symm) k he hk)
  · exact key u zs (h.b.row j u zs h1 h2) (fun k hk he => hp _ (ol.length + j) v u hva (by rw [List.getElem?_append_right (by omega), Nat.add_sub_cancel_left]; exact h1) (by omega) k he hk)
  · have hj2 := (List.getElem?_eq_some_iff.1 h1).1
    refine key u zs (h.c.row j u zs h1 h2) (fun k hk he => ?_)
    rcases h.lo j u h1 with ⟨v2, h3, h4⟩ | h3
    · have hjl := (List.getElem?_eq_some_iff.1 h3).1
      exact hp _ _ v v2 hva (by rw [List.getElem?_append_left hjl]; exact h3) (by omega) k he (h4 ▸ hk)
    · have h5 := h3 k hk
      have h6 := hvo k he
      omega
  · refine key u zs (h.e.row j u zs h1 h2) (fun k hk he => ?_)
    have h5 := h.lw j u h1 k hk
    have h6 := hvo k he
    omega
  · rcases snoc_at h1 with h1 | ⟨rfl, rfl⟩
    · exact h.lo j u h1
    · rcases hsl with hsl | hsl
      · exact Or.inl ⟨v, hv, hsl⟩
      · exact Or.inr (fun k hk => Nat.le_trans hN (hsl k hk))
  · rcases snoc_at h1 with h1 | ⟨rfl, rfl⟩
    · exact h.lw j u h1 k hk
    · exact Nat.le_trans hN (hsm k hk)
end
section
variable {P : Program} {ops : Array Oper} {rest : List Oper} {o : Oper} {a : Act} {Q : Exit → Act → World → Prop} {Kc : Act → World → Prop} {α : Type}
end
section
variable {α : Type} {d : Kd α} {W w w1 : World} {base te n : Nat} {v l' m' l1 m1 : Value} {gl gm : List α} {p : α}
end
theorem Lists.left {α : Type} {d : Kd α} {base te : Nat} {w : World} {us vs : List Value} {cs ds : List (List α)} (h : Lists d w base te (us ++ vs) (cs ++ ds)) (hl : us.length = cs.length) : Lists d w base te us cs := by
  refine ⟨hl, fun j v xs h1 h2 => h.row j v xs ?_ ?_⟩
  · rw [List.getElem?_append_left (List.getElem?_eq_some_iff.1 h1).1]; exact h1
  · rw [List.getElem?_append_left (List.getElem?_eq_some_iff.1 h2).1]; exact h2
theorem Lists.right {α : Type} {d : Kd α} {base te : Nat} {w : World} {us vs : List Value} {cs ds : List (List α)} (h : Lists d w base te (us ++ vs) (cs ++ ds)) (hl : us.length = cs.length) : Lists d w base te vs ds := by
  have hl2 := h.len
  rw [List.length_append, List.length_append] at hl2
  refine ⟨by omega, fun j v xs h1 h2 => h.row (us.length + j) v xs ?_ ?_⟩
  · rw [List.getElem?_append_right (by omega), Nat.add_sub_cancel_left]; exact h1
  · rw [List.getElem?_append_right (by omega), hl, Nat.add_sub_cancel_left]; exact h2
end Go.Proofs.Ytokbonceeglciaa.Bk
end
section
namespace Go.Proofs.Ytokbonceeglciaa.Bk
open Go.RowKit Go.Proofs.YtokbonceeglciaaW.PrintWords Go.Proofs.YtokbonceeglciaaW.PrintLast Go.Proofs.YtokbonceeglciaaW.PrintMore Go.Proofs.Ytokbonceeglciaa.Print Go.Proofs.Ytokbonceeglciaa.Given
set_option linter.unusedVariables false
set_option linter.unusedSimpArgs false
def reps (z : List Value) : Nat → List Value
  | 0 => []
  | n + 1 => reps z n ++ z
theorem reps_len (z : List Value) : ∀ n, (reps z n).length = n * z.length
  | 0 => by simp [reps]
  | n + 1 => by rw [reps, List.length_append, reps_len z n, Nat.add_mul, Nat.one_mul]
theorem reps_front (z : List Value) : ∀ n, reps z (n + 1) = z ++ reps z n
  | 0 => by simp [reps]
  | n + 1 => by
    show reps z (n + 1) ++ z = z ++ (reps z n ++ z)
    rw [reps_front z n, List.append_assoc]
theorem made_reps (z : List Value) (hz : 0 < z.length) : ∀ n, madeCells z.toArray (n * z.length) = (reps z n).toArray
  | 0 => by simp [madeCells, reps]
  | n + 1 => by
    have ih := made_reps z hz n
    apply Array.toList_inj.1
    have e := congrArg Array.toList ih
    simp only [madeCells, Array.toList_map, Array.toList_range] at e ⊢
    rw [Nat.add_mul, Nat.one_mul, List.range_add, List.map_append, e, reps]
    congr 1
    apply List.ext_getElem
    · simp
    · intro i h1 h2
      have hi : i < z.length := by simpa using h1
      simp [Nat.mul_add_mod_self_right, Nat.mod_eq_of_lt hi, hi]
def zero43 : List Value := [.int .i64 0, .bool false, .int .i64 0, .int .i64 0, .slice none 0 0]
def tail43 : List Value := [.int .i64 (-99), .bool false, .int .i64 0, .int .i64 0, .slice none 0 0]
def zero38 : List Value := [.int .i64 0, .slice none 0 0]
def tail38 : List Value := [.int .i64 (-99), .slice none 0 0]
theorem info36 : (Try.prog.info? 36).map (fun i => (i.zero, i.size, i.bytes)) = some (some (.slice none 0 0), 1, 24) := by kernel_rfl
theorem info38 : (Try.prog.info? 38).map (fun i => (i.zero, i.size, i.bytes)) = some (some (.agg #[.int .i64 0, .slice none 0 0]), 2, 32) := by kernel_rfl
theorem make38 (w : World) (n : Nat) (hn : n ≤ 1000000) : (Instr.makeSlice 22 (.int .i64 (n : Int)) (.int .i64 (n : Int))).run Try.prog w = .ok (.slice (some ⟨w.heap.size, 0, none⟩) n n) (w.alloc (.cells (reps zero38 n).toArray 38)) := by
  obtain ⟨i, hi, hz, hs, hb⟩ := info_parts info38
  have h := run_make (P := Try.prog) w 22 38 i _ Try.underlying22 hi hz .i64 .i64 (n : Int) (n : Int) (by omega) (Int.le_refl _) (by rw [hb]; omega) (by omega)
  rw [Int.toNat_natCast, hs] at h
  rw [h, ← made_reps zero38 (by decide) n]
  rfl
theorem make43 (w : World) (n : Nat) (hn : n ≤ 1000000) : (Instr.makeSlice 36 (.int .i64 (n : Int)) (.int .i64 (n : Int))).run Try.prog w = .ok (.slice (some ⟨w.heap.size, 0, none⟩) n n) (w.alloc (.cells (reps zero43 n).toArray 43)) := by
  obtain ⟨i, hi, hz, hs, hb⟩ := info_parts info43
  have h := run_make (P := Try.prog) w 36 43 i _ Try.underlying36 hi hz .i64 .i64 (n : Int) (n : Int) (by omega) (Int.le_refl _) (by rw [hb]; omega) (by omega)
  rw [Int.toNat_natCast, hs] at h
  rw [h, ← made_reps zero43 (by decide) n]
  rfl
def ArmsBlk (W0 w : World) (g : Nat) (xs : List S43) : Prop := ∃ cs : List Value, w.heap[g]? = some (.cells (cs ++ tail43).toArray 43 (0, 0)) ∧ cs.length = xs.length * 5 ∧ ∀ (t : Nat) (a : S43), xs[t]? = some a → k43.K W0 a (seg cs 5 t)
theorem ArmsBlk.kt {W0 w w1 : World} {g : Nat} {xs : List S43} (h : ArmsBlk W0 w g xs) (hk : KT 43 w w1) : ArmsBlk W0 w1 g xs := by
  obtain ⟨cs, h1, h2, h3⟩ := h
  exact ⟨cs, hk g _ h1, h2, h3⟩
theorem ArmsBlk.C {W0 w : World} {g : Nat} {xs : List S43} (h : ArmsBlk W0 w g xs) (hb : Below W0.heap.size W0 w) (hm : xs.length ≤ 9223372036854775807) : Kd.C k43 w (some ⟨g, 0, none⟩) xs.length xs := by
  obtain ⟨cs, h1, h2, h3⟩ := h
  refine blk_C h1 hm fun j x hx => ?_
  have hj := (List.getElem?_eq_some_iff.1 hx).1
  rw [show k43.sz = 5 from rfl, seg_left (by rw [h2]; omega)]
  exact k43.K_below hb (h3 j x hx)
def rowA (x : S38) (g : Nat) : List Value := [.int .i64 x.f0, .slice (some ⟨g, 0, none⟩) x.f1.length (x.f1.length + 1)]
def rowM (x : S38) (g : Nat) : List Value := [.slice (some ⟨g, 0, none⟩) (x.f1.length + 1) (x.f1.length + 1)]
def catA : List S38 → List Nat → List Value
  | x :: l, g :: gs => rowA x g ++ catA l gs
  | _, _ => []
def rowsM : List S38 → List Nat → List (List Value)
  | x :: l, g :: gs => rowM x g :: rowsM l gs
  | _, _ => []
theorem catA_len : ∀ (l : List S38) (gs : List Nat), gs.length = l.length → (catA l gs).length = l.length * 2
  | [], [], _ => rfl
  | [], _ :: _, h => by simp at h
  | _ :: _, [], h => by simp at h
  | x :: l, g :: gs, h => by
    rw [catA, List.length_append, catA_len l gs (by simpa using h)]
    simp [rowA]
    omega
theorem rowsM_len : ∀ (l : List S38) (gs : List Nat), gs.length = l.length → (rowsM l gs).length = l.length
  | [], [], _ => rfl
  | [], _ :: _, h => by simp at h
  | _ :: _, [], h => by simp at h
  | x :: l, g :: gs, h => by
    rw [rowsM, List.length_cons, rowsM_len l gs (by simpa using h)]
    rfl
theorem catA_snoc (y : S38) (b : Nat) : ∀ (l : List S38) (gs : List Nat), gs.length = l.length → catA (l ++ [y]) (gs ++ [b]) = catA l gs ++ rowA y b
  | [], [], _ => by simp [catA]
  | [], _ :: _, h => by simp at h
  | _ :: _, [], h => by simp at h
  | x :: l, g :: gs, h => by
    rw [List.cons_append, List.cons_append, catA, catA, catA_snoc y b l gs (by simpa using h), List.append_assoc]
theorem rowsM_snoc (y : S38) (b : Nat) : ∀ (l : List S38) (gs : List Nat), gs.length = l.length → rowsM (l ++ [y]) (gs ++ [b]) = rowsM l gs ++ [rowM y b]
  | [], [], _ => by simp [rowsM]
  | [], _ :: _, h => by simp at h
  | _ :: _, [], h => by simp at h
  | x :: l, g :: gs, h => by
    rw [List.cons_append, List.cons_append, rowsM, rowsM, rowsM_snoc y b l gs (by simpa using h), List.cons_append]
theorem catA_seg : ∀ (l : List S38) (gs : List Nat) (j : Nat) (x : S38) (g : Nat), gs.length = l.length → l[j]? = some x → gs[j]? = some g → seg (catA l gs) 2 j = rowA x g
  | [], _, j, x, g, _, hx, _ => by simp at hx
  | _ :: _, [], j, x, g, _, _, hg => by simp at hg
  | y :: l, b :: gs, 0, x, g, h, hx, hg => by
    simp at hx hg
    subst hx
    subst hg
    rw [catA]
    exact seg_last (cs := []) (ds := rowA y b) (es := catA l gs) (s := 2) (j := 0) (by simp) rfl
  | y :: l, b :: gs, j + 1, x, g, h, hx, hg => by
    have ih := catA_seg l gs j x g (by simpa using h) (by simpa using hx) (by simpa using hg)
    rw [catA]
    unfold seg at ih ⊢
    rw [show (j + 1) * 2 = 2 + j * 2 by omega, show rowA y b ++ catA l gs = rowA y b ++ catA l gs from rfl, ← List.drop_drop]
    exact ih
theorem rowsM_at : ∀ (l : List S38) (gs : List Nat) (j : Nat) (x : S38) (g : Nat), gs.length = l.length → l[j]? = some x → gs[j]? = some g → (rowsM l gs)[j]? = some (rowM x g)
  | [], _, j, x, g, _, hx, _ => by simp at hx
  | _ :: _, [], j, x, g, _, _, hg => by simp at hg
  | y :: l, b :: gs, 0, x, g, h, hx, hg => by
    simp at hx hg
    subst hx
    subst hg
    rfl
  | y :: l, b :: gs, j + 1, x, g, h, hx, hg => by
    rw [rowsM]
    exact rowsM_at l gs j x g (by simpa using h) (by simpa using hx) (by simpa using hg)
structure Lent (W0 w : World) (base : Nat) (l : List S38) (F : Nat → List S43) (gs : List Nat) (ga : Nat) (rest : List Value) (vr : Value) : Prop where
  len : gs.length = l.length
  low : base ≤ ga
  lows : ∀ g ∈ gs, base ≤ g
  nod : gs.Nodup
  blk : w.heap[ga]? = some (.cells (catA l gs ++ rest).toArray 38 (0, 0))
  rows : (Kd.raw 1).R 36 w base Any vr (rowsM l gs)
  arms : ∀ (j g : Nat), gs[j]? = some g → ArmsBlk W0 w g (F j)
  flen : ∀ (j : Nat) (x : S38), l[j]? = some x → (F j).length = x.f1.length
theorem Lent.kt {W0 w w1 : World} {base ga : Nat} {l : List S38} {F : Nat → List S43} {gs : List Nat} {rest : List Value} {vr : Value} (h : Lent W0 w base l F gs ga rest vr) (h1 : KT 38 w w1) (h2 : KT 36 w w1) (h3 : KT 43 w w1) : Lent W0 w1 base l F gs ga rest vr :=
  ⟨h.len, h.low, h.lows, h.nod, h1 _ _ h.blk, R_kt rfl h.rows h2, fun j g hg => (h.arms j g hg).kt h3, h.flen⟩
theorem Lent.below {W0 w w1 : World} {base ga : Nat} {l : List S38} {F : Nat → List S43} {gs : List Nat} {rest : List Value} {vr : Value} (h : Lent W0 w base l F gs ga rest vr) (hb : Below w.heap.size w w1) : Lent W0 w1 base l F gs ga rest vr := h.kt (KT.below hb) (KT.below hb) (KT.below hb)
theorem Lent.lt {W0 w : World} {base ga : Nat} {l : List S38} {F : Nat → List S43} {gs : List Nat} {rest : List Value} {vr : Value} (h : Lent W0 w base l F gs ga rest vr) : ∀ g ∈ gs, g < w.heap.size := by
  intro g hg
  obtain ⟨j, hj⟩ := List.mem_iff_getElem?.1 hg
  obtain ⟨cs, hc, _⟩ := h.arms j g hj
  exact blk_lt hc
def withF (l : List S38) (F : Nat → List S43) : List S38 := l.mapIdx fun j x => ⟨x.f0, F j⟩
theorem withF_len (l : List S38) (F : Nat → List S43) : (withF l F).length = l.length := List.length_mapIdx
theorem withF_at {l : List S38} {F : Nat → List S43} {j : Nat} {x : S38} (h : (withF l F)[j]? = some x) : ∃ y, l[j]? = some y ∧ x = ⟨y.f0, F j⟩ := by
  unfold withF at h
  rw [List.getElem?_mapIdx] at h
  obtain ⟨y, hy, rfl⟩ := Option.map_eq_some_iff.1 h
  exact ⟨y, hy, rfl⟩
theorem Lent.segK {W0 w : World} {base ga : Nat} {l : List S38} {F : Nat → List S43} {gs : List Nat} {rest : List Value} {vr : Value} (h : Lent W0 w base l F gs ga rest vr) (hb : Below W0.heap.size W0 w) (hm : ∀ x ∈ l, x.f1.length ≤ 1000000) {j : Nat} {x : S38} (hx : (withF l F)[j]? = some x) : k38.K w x (seg (catA l gs ++ rest) 2 j) := by
  obtain ⟨y, hy, rfl⟩ := withF_at hx
  have hj := (List.getElem?_eq_some_iff.1 hy).1
  obtain ⟨g, hg⟩ : ∃ g, gs[j]? = some g := ⟨_, List.getElem?_eq_getElem (by rw [h.len]; exact hj)⟩
  rw [seg_left (by rw [catA_len l gs h.len]; omega), catA_seg l gs j y g h.len hy hg]
  have hl := h.flen j y hy
  have hyl := hm y (List.mem_of_getElem? hy)
  have hC := (h.arms j g hg).C hb (by omega)
  have := k38_mk w ⟨y.f0, F j⟩ (A1 := some ⟨g, 0, none⟩) (c1 := y.f1.length + 1) (by show (F j).length ≤ _; omega) hC
  rw [show (⟨y.f0, F j⟩ : S38).f1.length = y.f1.length from hl] at this
  exact this
theorem Lent.C {W0 w : World} {base ga : Nat} {l : List S38} {F : Nat → List S43} {gs : List Nat} {rest : List Value} {vr : Value} (h : Lent W0 w base l F gs ga rest vr) (hb : Below W0.heap.size W0 w) (hm : ∀ x ∈ l, x.f1.length ≤ 1000000) (hl : l.length ≤ 1000000) : Kd.C k38 w (some ⟨ga, 0, none⟩) (withF l F).length (withF l F) :=
  blk_C h.blk (by rw [withF_len]; omega) fun j x hx => h.segK hb hm hx
end Go.Proofs.Ytokbonceeglciaa.Bk
end
section
namespace Go.Proofs.Ytokbonceeglciaa.Bk
open Go.RowKit Go.Proofs.YtokbonceeglciaaW.PrintWords Go.Proofs.YtokbonceeglciaaW.PrintLast Go.Proofs.YtokbonceeglciaaW.PrintMore Go.Proofs.Ytokbonceeglciaa.Print Go.Proofs.Ytokbonceeglciaa.Given
set_option linter.unusedVariables false
set_option linter.unusedSimpArgs false
def FL (l : List S38) (j : Nat) : List S43 := (l.getD j z38).f1
theorem FL_at {l : List S38} {j : Nat} {x : S38} (h : l[j]? = some x) : FL l j = x.f1 := by
  unfold FL
  rw [List.getD_eq_getElem?_getD, h]
  rfl
theorem copy_arms (W0 w : World) (g : Nat) (A1 : Option Addr) (c1 : Nat) (xs : List S43) (ty : TypeId) (h : w.heap[g]? = some (.cells (reps zero43 (xs.length + 1)).toArray 43 (0, 0))) (hC : Kd.C k43 W0 A1 xs.length xs) (hb : Below W0.heap.size W0 w) :
    ∃ cs : List Value, (Builtin.copy_ #[36, 36] ty #[.slice (some ⟨g, 0, none⟩) (xs.length + 1) (xs.length + 1), .slice A1 xs.length c1]).run Try.prog w = .ok (.int .i64 (xs.length : Int)) (w.setRow g (cs ++ zero43).toArray) ∧ cs.length = xs.length * 5 ∧ ∀ (t : Nat) (a : S43), xs[t]? = some a → k43.K W0 a (seg cs 5 t) := by
  have hz : (Try.prog.info? 43).map (·.size) = some 5 := by kernel_rfl
  by_cases hp : 0 < xs.length
  · obtain ⟨ad, cs, rfl, h1, h2, h3, h4⟩ := C_flat hC hp
    rw [show k43.sz = 5 from rfl] at h1
    have hmin : Nat.min xs.length (xs.length + 1) = xs.length := Nat.min_eq_left (by omega)
    have hr := run_copy_sz (P := Try.prog) w 36 36 ty 43 g 0 (xs.length + 1) (xs.length + 1) ad xs.length c1 5 (reps zero43 (xs.length + 1)).toArray 43 cs Try.underlying36 hz h (by rw [hmin, h1]) (fun j v hv => by
      have := h2 j v hv
      exact (hb.cell (World.block_lt_of_cell? W0 _ this)).trans this) (by rw [List.size_toArray, reps_len, h1]; simp [zero43]; omega) h3
    refine ⟨cs, ?_, h1, h4⟩
    rw [hr, hmin]
    congr 2
    rw [List.take_zero, List.nil_append, Nat.zero_add]
    congr 1
    have e : (reps zero43 (xs.length + 1)).drop cs.length = zero43 := by
      have hl : (reps zero43 xs.length).length = cs.length := by rw [reps_len, h1]; rfl
      rw [reps, ← hl, List.drop_left]
    exact congrArg _ e
  · have h0 : xs.length = 0 := by omega
    refine ⟨[], ?_, by rw [h0]; rfl, fun t a ht => by have := (List.getElem?_eq_some_iff.1 ht).1; omega⟩
    have hr := run_copy_sz0 (P := Try.prog) w 36 36 ty 43 (some ⟨g, 0, none⟩) (xs.length + 1) (xs.length + 1) A1 c1 5 Try.underlying36 hz
    rw [h0] at hr ⊢
    rw [hr]
    rw [h0] at h
    have : w.setRow g (([] : List Value) ++ zero43).toArray = w := setRow_self w g _ 43 (0, 0) h
    rw [this]
    rfl
theorem mark_row (cs : List Value) {n : Nat} (h : cs.length = n * 5) : (cs ++ zero43).toArray.setIfInBounds (n * 5) (.int .i64 (-99)) = (cs ++ tail43).toArray := by
  rw [List.setIfInBounds_toArray, List.set_append_right _ _ (by omega), h, Nat.sub_self]
  rfl
theorem set_rows {c r : List Value} {n : Nat} {a b : Value} (h : c.length = n * 2) : ((c ++ (zero38 ++ r)).toArray.setIfInBounds (n * 2) a).setIfInBounds (n * 2 + 1) b = (c ++ ([a, b] ++ r)).toArray := by
  rw [List.setIfInBounds_toArray, List.setIfInBounds_toArray, List.set_append_right _ _ (by omega), h, Nat.sub_self, List.set_append_right _ _ (by omega), h, Nat.add_sub_cancel_left]
  rfl
theorem set_mark {c : List Value} {n : Nat} (h : c.length = n * 2) : (c ++ (zero38 ++ [])).toArray.setIfInBounds (n * 2) (.int .i64 (-99)) = (c ++ tail38).toArray := by
  rw [List.setIfInBounds_toArray, List.set_append_right _ _ (by omega), h, Nat.sub_self]
  rfl
set_option maxRecDepth 100000 in
set_option maxHeartbeats 4000000 in
theorem lent_any (A : Option Addr) (c : Nat) (l : List S38) (W0 w : World) (hr : Kd.C k38 W0 A l.length l) (hb0 : Below W0.heap.size W0 w) (hc : l.length ≤ c) (hl : l.length ≤ 4000) (hm : ∀ x ∈ l, x.f1.length ≤ 4000) :
    Calls Try.prog 8 #[.slice A l.length c] w fun e w' => ∃ (ga : Nat) (gs : List Nat) (vr : Value), e = .returned (.tuple #[.slice (some ⟨ga, 0, none⟩) (l.length + 1) (l.length + 1), vr]) ∧ Lent W0 w' w.heap.size l (FL l) gs ga tail38 vr ∧ Below w.heap.size w w' := by
  have HR := Aside0.mk hr
  have HB00 := Aside0.mk hb0
  have HM := Aside0.mk hm
  have HC := Aside0.mk hc
  obtain ⟨Z, hZ⟩ : ∃ Z, Z = reps zero38 (l.length + 1) := ⟨_, rfl⟩
  have hw1 : IntKind.i64.wrap ((l.length : Int) + 1) = (l.length : Int) + 1 := Go.IntWalk.i64_in _ (by omega)
  have hmk : ∀ W : World, (Instr.makeSlice 22 (.int .i64 ((l.length : Int) + 1)) (.int .i64 ((l.length : Int) + 1))).run Try.prog W = .ok (.slice (some ⟨W.heap.size, 0, none⟩) (l.length + 1) (l.length + 1)) (W.alloc (.cells Z.toArray 38)) := fun W => by
    have h := make38 W (l.length + 1) (by omega)
    rw [Int.natCast_add] at h
    rw [hZ]
    exact h
  have HZ := Aside0.mk hZ
  clear hr hb0 hm hZ hc
  go_enter Try.func8, Try.ntmps8
  go_upto_region 2 with (fail)
  obtain ⟨ga, hga⟩ : ∃ g_, g_ = w.heap.size := ⟨_, rfl⟩
  rw [← hga]
  have HB0 := Aside0.mk (below_alloc (Below.refl _ w) (.cells Z.toArray 38))
  have HG0 : Aside0 ((w.alloc (.cells Z.toArray 38)).heap[ga]? = some (.cells Z.toArray 38 (0, 0))) := ⟨by rw [hga]; exact heap_alloc_new _ _⟩
  have HGA := Aside0.mk hga
  generalize w.alloc (.cells Z.toArray 38) = w1 at HB0 HG0 ⊢
  clear hga hmk
  go_upto_region 3 with ((with_reducible refine gate_dst (N := 12) rfl ?_); go_loud (refine Kd.R_lit (Kd.raw 1) (w0 := w1) w.heap.size 36 ?hg (N := 12) ?hd (xs := ([] : List (List Value))) (inner := []) (ok := Any) (okp := Any) ?hr ?hp (fun _ hk => hk) trivial ?hb ?hs (by simp) ?_); (case hd => rfl); (case hg => rfl); (case hr => first | (go_simp; done) | (go_simp; rfl)); (case hp => exact (Reps.none _ _)); (case hb => exact Below.refl _ _); (case hs => exact HB0.out.size); intro v5 w2 ho hb hg2 _; have HO := Aside0.mk ho; have HB := Aside0.mk hb; have HGR := Aside0.mk hg2; clear ho hb hg2)
  have HLE : Aside0 (Lent W0 w2 w.heap.size (l.take 0) (FL l) [] ga (reps zero38 (l.length + 1 - 0)) v5) := by
    rw [List.take_zero]
    refine ⟨⟨rfl, Nat.le_of_eq HGA.out.symm, (fun g hg => by cases hg), List.nodup_nil, ?_, HO.out, (fun j g hg => by simp at hg), (fun j x hx => by simp at hx)⟩⟩
    show w2.heap[ga]? = some (.cells (reps zero38 (l.length + 1)).toArray 38 (0, 0))
    rw [← HZ.out]
    exact blk_grown HG0.out HGR.out (by simp)
  have HBW : Aside0 (Below w.heap.size w w2) := ⟨HB0.out.trans HB.out⟩
  clear HO HB HGR HG0 HB0 HZ
  go_wp2_with (fail)
  go_loopw [5, 6, 7] (fun v5 v6 v7 wr => ∃ (i : Nat) (gs : List Nat), v6 = .int .i64 i ∧ i ≤ l.length ∧ Aside0 (Lent W0 wr w.heap.size (l.take i) (FL l) gs ga (reps zero38 (l.length + 1 - i)) v5) ∧ Aside0 (Below w.heap.size w wr)) (fun _ v6 _ _ => l.length - (intOf v6).toNat)
  case atStart => exact ⟨0, [], rfl, by omega, HLE, HBW⟩
  case round =>
    clear HLE HBW
    obtain ⟨i, gs, rfl, hi, HLE, HBW⟩ := hrel
    by_cases hlt : i < l.length
    · obtain ⟨ad, A1, c1, rfl, x0, x1, hl1, hC1⟩ := at_T38 HR.out (i : Int) (by omega) (by omega)
      have hel : rd_T38 l i = l[i] := by simp [rd_T38, List.getElem?_eq_getElem hlt]
      have hxm := HM.out l[i] (List.getElem_mem hlt)
      have hli : l[i]? = some l[i] := List.getElem?_eq_getElem hlt
      obtain ⟨x, hx⟩ : ∃ x, x = l[i] := ⟨_, rfl⟩
      rw [hel, Int.toNat_natCast, ← hx] at x0 x1
      rw [hel, ← hx] at hl1 hC1
      rw [← hx] at hxm hli
      replace x0 := pw_cell_below HB00.out x0
      replace x1 := pw_cell_below HB00.out x1
      obtain ⟨id, xs⟩ := x
      dsimp only at x0 x1 hl1 hC1 hxm
      have X0 := Aside0.mk x0
      have X1 := Aside0.mk x1
      have HC1 := Aside0.mk hC1
      have HLI := Aside0.mk hli
      have HXM := Aside0.mk hxm
      have y0 := pw_cell_below HBW.out x0
      have y1 := pw_cell_below HBW.out x1
      obtain ⟨Z, hZ⟩ : ∃ Z, Z = reps zero43 (xs.length + 1) := ⟨_, rfl⟩
      have hw1 : IntKind.i64.wrap ((xs.length : Int) + 1) = (xs.length : Int) + 1 := Go.IntWalk.i64_in _ (by omega)
      have hmk : ∀ W : World, (Instr.makeSlice 36 (.int .i64 ((xs.length : Int) + 1)) (.int .i64 ((xs.length : Int) + 1))).run Try.prog W = .ok (.slice (some ⟨W.heap.size, 0, none⟩) (xs.length + 1) (xs.length + 1)) (W.alloc (.cells Z.toArray 43)) := fun W => by
        have h := make43 W (xs.length + 1) (by omega)
        rw [Int.natCast_add] at h
        rw [hZ]
        exact h
      have HZ := Aside0.mk hZ
      clear hx hel x0 x1 hC1 hli hxm hZ
      go_upto_region 7 with (fail)
      obtain ⟨gm, hgm⟩ : ∃ g_, g_ = wr.heap.size := ⟨_, rfl⟩
      rw [← hgm]
      have HG1 : Aside0 ((wr.alloc (.cells Z.toArray 43)).heap[gm]? = some (.cells (reps zero43 (xs.length + 1)).toArray 43 (0, 0))) := ⟨by rw [hgm, ← HZ.out]; exact heap_alloc_new _ _⟩
      have HB1 := Aside0.mk (below_alloc (Below.refl _ wr) (.cells Z.toArray 43))
      have HGM := Aside0.mk hgm
      generalize wr.alloc (.cells Z.toArray 43) = w3 at HG1 HB1 ⊢
      clear hgm hmk y0 y1 hw1
      have z0 := pw_cell_below (below_then HBW.out HBW.out.size HB1.out) X0.out
      have z1 := pw_cell_below (below_then HBW.out HBW.out.size HB1.out) X1.out
      obtain ⟨cs, hcp, hcl, hck⟩ := copy_arms W0 w3 gm A1 c1 xs 3 HG1.out HC1.out (below_then HB00.out HB00.out.size (below_then HBW.out HBW.out.size HB1.out))
      have HCP := Aside0.mk hcp
      have HCL := Aside0.mk hcl
      have HCK := Aside0.mk hck
      clear hcp hcl hck
      go_upto_region 8 with ((with_reducible refine gate_dst (N := 33) rfl ?_); go_loud (refine Lib.wpList_copy_run _ rfl (.tmp 27) (.tmp 32) 36 36 rfl _ _ rfl rfl HCP.out ?_))
      have HG4 : Aside0 ((w3.setRow gm (cs ++ zero43).toArray).heap[gm]? = some (.cells (cs ++ zero43).toArray 43 (0, 0))) := ⟨setRow_heap _ _ _ _ _ _ HG1.out⟩
      have HB4 : Aside0 (Below wr.heap.size wr (w3.setRow gm (cs ++ zero43).toArray)) := ⟨below_setRow HB1.out (Nat.le_of_eq HGM.out.symm) _⟩
      generalize w3.setRow gm (cs ++ zero43).toArray = w4 at HG4 HB4 ⊢
      clear z0 z1 HCP HG1 HB1 HZ
      have z0 := pw_cell_below (below_then HBW.out HBW.out.size HB4.out) X0.out
      have z1 := pw_cell_below (below_then HBW.out HBW.out.size HB4.out) X1.out
      have hc0 : w4.cell? ⟨gm, xs.length * 5, none⟩ = some (.int .i64 0) := by
        rw [blk_cell HG4.out, List.getElem?_toArray, List.getElem?_append_right (by rw [HCL.out]; exact Nat.le_refl _), HCL.out, Nat.sub_self]
        rfl
      have hf0 : w4.frozen? ⟨gm, xs.length * 5, none⟩ = false := blk_frozen HG4.out _
      go_upto_region 9 with (fail)
      have HG5 : Aside0 ((w4.setCell ⟨gm, xs.length * 5, none⟩ (.int .i64 (-99))).heap[gm]? = some (.cells (cs ++ tail43).toArray 43 (0, 0))) := ⟨(blk_set HG4.out _ _).trans (by rw [mark_row cs HCL.out])⟩
      have HB5 : Aside0 (Below wr.heap.size wr (w4.setCell ⟨gm, xs.length * 5, none⟩ (.int .i64 (-99)))) := ⟨below_setG HB4.out (Nat.le_of_eq HGM.out.symm) _ _⟩
      generalize w4.setCell ⟨gm, xs.length * 5, none⟩ (.int .i64 (-99)) = w5 at HG5 HB5 ⊢
      clear z0 z1 HG4 HB4 hc0 hf0
      have HLE5 := Aside0.mk (HLE.out.below HB5.out)
      have HBW5 := Aside0.mk (below_then HBW.out HBW.out.size HB5.out)
      have HGS : Aside0 (gs.length = i) := ⟨by have := HLE.out.len; rw [List.length_take] at this; omega⟩
      have HNG : Aside0 (gm ∉ gs) := ⟨fun hmem => by have := HLE.out.lt gm hmem; have := HGM.out; omega⟩
      clear HLE HB5
      go_upto_region 10 with ((with_reducible refine gate_builtin (b := .append) (xs := #[.tmp 43, .tmp 45]) rfl ?_); at_builtin; go_loud (refine Kd.R_append (Kd.raw 1) (w0 := w5) w.heap.size rfl (.tmp 43) (.tmp 45) 29 36 (.slice none 0 0) 24 rfl Try.underlying29 info36 rfl (by decide) (by omega) _ (rowsM (l.take i) gs) [.slice (some ⟨gm, 0, none⟩) (xs.length + 1) (xs.length + 1)] [.slice (some ⟨gm, 0, none⟩) (xs.length + 1) (xs.length + 1)] Any (fun _ => False) rfl rfl ?aP (fun _ hk => hk.elim) (fun _ _ => trivial) ?aO (Below.refl _ _) ?aS ?aL ?_); (case aP => exact raw_one _ rfl _ _ _); (case aO => exact HLE5.out.rows); (case aS => exact HBW5.out.size); (case aL => rw [rowsM_len _ _ HLE5.out.len, List.length_take]; omega); intro u6 w6 ho hb hg hat; have HO6 := Aside0.mk ho; have HB6 := Aside0.mk hb; have HG6 := Aside0.mk hg; clear ho hb hg hat)
      have K43 : Aside0 (KT 43 w5 w6) := ⟨KT.grown HG6.out (Kd.R_typed HLE5.out.rows) (by decide)⟩
      have K38 : Aside0 (KT 38 w5 w6) := ⟨KT.grown HG6.out (Kd.R_typed HLE5.out.rows) (by decide)⟩
      have HGm := Aside0.mk (K43.out _ _ HG5.out)
      have HGa := Aside0.mk (K38.out _ _ HLE5.out.blk)
      have HBW6 := Aside0.mk (HBW5.out.trans HB6.out)
      have HAR := Aside0.mk (fun (j g : Nat) (hg : gs[j]? = some g) => (HLE5.out.arms j g hg).kt K43.out)
      have z0 := pw_cell_below HBW6.out X0.out
      have z1 := pw_cell_below HBW6.out X1.out
      obtain ⟨m, hm1⟩ : ∃ m, l.length + 1 - i = m + 1 := ⟨l.length - i, by omega⟩
      have hcat : (catA (l.take i) gs).length = i * 2 := by rw [catA_len _ _ HLE5.out.len, List.length_take, Nat.min_eq_left (by omega)]
      have HCAT := Aside0.mk hcat
      have HGa2 : Aside0 (w6.heap[ga]? = some (.cells (catA (l.take i) gs ++ (zero38 ++ reps zero38 m)).toArray 38 (0, 0))) := ⟨by rw [← reps_front, ← hm1]; exact HGa.out⟩
      have HM1 := Aside0.mk hm1
      clear hm1 hcat HGa
      have hc0 : w6.cell? ⟨ga, i * 2, none⟩ = some (.int .i64 0) := by
        rw [blk_cell HGa2.out, List.getElem?_toArray, List.getElem?_append_right (by rw [HCAT.out]; exact Nat.le_refl _), HCAT.out, Nat.sub_self]
        rfl
      have hc1 : w6.cell? ⟨ga, i * 2 + 1, none⟩ = some (.slice none 0 0) := by
        rw [blk_cell HGa2.out, List.getElem?_toArray, List.getElem?_append_right (by rw [HCAT.out]; omega), HCAT.out, Nat.add_sub_cancel_left]
        rfl
      have hf0 : w6.frozen? ⟨ga, i * 2, none⟩ = false := blk_frozen HGa2.out _
      have hf1 : w6.frozen? ⟨ga, i * 2 + 1, none⟩ = false := blk_frozen HGa2.out _
      go_region
      obtain ⟨W7, hW7⟩ : ∃ W7, W7 = ((w6.setCell ⟨ga, i * 2, none⟩ (.int .i64 id)).setCell ⟨ga, i * 2 + 1, none⟩ (.slice (some ⟨gm, 0, none⟩) xs.length (xs.length + 1))).drew := ⟨_, rfl⟩
      rw [← hW7]
      have htk : l.take (i + 1) = l.take i ++ [⟨id, xs⟩] := by rw [List.take_add_one, HLI.out]; rfl
      have HN : Aside0 (Lent W0 W7 w.heap.size (l.take (i + 1)) (FL l) (gs ++ [gm]) ga (reps zero38 m) u6) := by
        have hga : w.heap.size ≤ ga := Nat.le_of_eq HGA.out.symm
        have hb1 := blk_set HGa2.out (i * 2) (.int .i64 id)
        have hb2 := blk_set hb1 (i * 2 + 1) (.slice (some ⟨gm, 0, none⟩) xs.length (xs.length + 1))
        have kt : ∀ t, t ≠ 38 → KT t w6 W7 := fun t ht => by
          rw [hW7]
          exact ((KT.set HGa2.out ht _ _).trans (KT.set hb1 ht _ _)).trans (KT.below (below_drew (Below.refl _ _)))
        have hl5 := HLE5.out.len
        refine ⟨⟨?_, hga, ?_, ?_, ?_, ?_, ?_, ?_⟩⟩
        · rw [htk, List.length_append, List.length_append, hl5]
          rfl
        · intro g hg
          rcases List.mem_append.1 hg with hg | hg
          · exact HLE5.out.lows g hg
          · obtain rfl : g = gm := by simpa using hg
            have := HGM.out
            have := HBW.out.size
            omega
        · refine List.nodup_append.2 ⟨HLE5.out.nod, by simp, fun a ha b hb => ?_⟩
          obtain rfl : b = gm := by simpa using hb
          exact fun e => HNG.out (e ▸ ha)
        · rw [htk, catA_snoc _ _ _ _ hl5, hW7]
          refine (blk_drew hb2).trans ?_
          rw [set_rows HCAT.out, ← List.append_assoc]
          rfl
        · rw [htk, rowsM_snoc _ _ _ _ hl5]
          exact R_kt rfl HO6.out (kt 36 (by decide))
        · intro j g hg
          by_cases hj : j < gs.length
          · rw [List.getElem?_append_left hj] at hg
            exact (HAR.out j g hg).kt (kt 43 (by decide))
          · rw [List.getElem?_append_right (by omega)] at hg
            have hj2 : j - gs.length = 0 := by
              have := (List.getElem?_eq_some_iff.1 hg).1
              simp at this
              omega
            rw [hj2] at hg
            injection hg with hg
            subst hg
            have : j = i := by have := HGS.out; omega
            subst this
            rw [FL_at HLI.out]
            exact ⟨cs, kt 43 (by decide) _ _ HGm.out, HCL.out, HCK.out⟩
        · intro j x hx
          have hx2 : l[j]? = some x := by
            have hj := (List.getElem?_eq_some_iff.1 hx).1
            rw [List.length_take] at hj
            rw [List.getElem?_take, if_pos (by omega)] at hx
            exact hx
          rw [FL_at hx2]
      have HBN : Aside0 (Below w.heap.size w W7) := ⟨by rw [hW7]; exact below_drew (below_setG (below_setG HBW6.out (Nat.le_of_eq HGA.out.symm) _ _) (Nat.le_of_eq HGA.out.symm) _ _)⟩
      clear htk hW7 z0 z1 hc0 hc1 hf0 hf1
      go_wp2_with (fail)
      go_roundw
      case rel => exact ⟨i + 1, gs ++ [gm], by go_num, by omega, ⟨by have := HN.out; have hm := HM1.out; rw [show l.length + 1 - (i + 1) = m by omega]; exact this⟩, HBN⟩
      case measure => simp [intOf]; omega
    · obtain rfl : i = l.length := by omega
      have hrest : reps zero38 (l.length + 1 - l.length) = zero38 ++ [] := by rw [Nat.add_sub_cancel_left]; rfl
      have hcat : (catA (l.take l.length) gs).length = l.length * 2 := by rw [catA_len _ _ HLE.out.len, List.length_take, Nat.min_self]
      have hgb := HLE.out.blk
      rw [hrest] at hgb
      have HGB := Aside0.mk hgb
      have HCAT := Aside0.mk hcat
      clear hrest hgb hcat
      have hc0 : wr.cell? ⟨ga, l.length * 2, none⟩ = some (.int .i64 0) := by
        rw [blk_cell HGB.out, List.getElem?_toArray, List.getElem?_append_right (by rw [HCAT.out]; exact Nat.le_refl _), HCAT.out, Nat.sub_self]
        rfl
      have hf0 : wr.frozen? ⟨ga, l.length * 2, none⟩ = false := blk_frozen HGB.out _
      go_wp2_with (fail)
      have HN : Aside0 (Lent W0 (wr.setCell ⟨ga, l.length * 2, none⟩ (.int .i64 (-99))) w.heap.size l (FL l) gs ga tail38 u5) := by
        have kt : ∀ t, t ≠ 38 → KT t wr (wr.setCell ⟨ga, l.length * 2, none⟩ (.int .i64 (-99))) := fun t ht => KT.set HGB.out ht _ _
        have h := HLE.out
        have hb := blk_set HGB.out (l.length * 2) (.int .i64 (-99))
        rw [set_mark HCAT.out, List.take_length] at hb
        rw [List.take_length] at h
        exact ⟨⟨h.len, h.low, h.lows, h.nod, hb, R_kt rfl h.rows (kt 36 (by decide)), fun j g hg => (h.arms j g hg).kt (kt 43 (by decide)), h.flen⟩⟩
      go_ret2
      exact ⟨ga, gs, u5, rfl, HN.out, below_setG HBW.out (Nat.le_of_eq HGA.out.symm) _ _⟩
end Go.Proofs.Ytokbonceeglciaa.Bk
end
section
namespace Go.Proofs.Ytokbonceeglciaa.Bk
open Go.RowKit Go.Proofs.YtokbonceeglciaaW.PrintWords Go.Proofs.YtokbonceeglciaaW.PrintLast Go.Proofs.YtokbonceeglciaaW.PrintMore Go.Proofs.Ytokbonceeglciaa.Print Go.Proofs.Ytokbonceeglciaa.Given
set_option linter.unusedVariables false
set_option linter.unusedSimpArgs false
def flipS (a : S43) : S43 := ⟨a.f0, !a.f1, a.f2⟩
def flK (xs : List S43) (k : Nat) : List S43 := (xs.take k).map flipS ++ xs.drop k
theorem flK_zero (xs : List S43) : flK xs 0 = xs := by simp [flK]
theorem flK_len (xs : List S43) (k : Nat) : (flK xs k).length = xs.length := by
  unfold flK
  rw [List.length_append, List.length_map, List.length_take, List.length_drop]
  omega
theorem flK_all (xs : List S43) : flK xs xs.length = xs.map flipS := by simp [flK]
theorem flK_at (xs : List S43) (k t : Nat) (a : S43) (h : (flK xs k)[t]? = some a) : ∃ b, xs[t]? = some b ∧ a = if t < k then flipS b else b := by
  unfold flK at h
  by_cases ht : t < ((xs.take k).map flipS).length
  · rw [List.getElem?_append_left ht] at h
    rw [List.length_map, List.length_take] at ht
    rw [List.getElem?_map, List.getElem?_take, if_pos (by omega)] at h
    obtain ⟨b, hb, rfl⟩ := Option.map_eq_some_iff.1 h
    exact ⟨b, hb, by rw [if_pos (by omega)]⟩
  · rw [List.getElem?_append_right (by omega), List.getElem?_drop] at h
    rw [List.length_map, List.length_take] at h ht
    by_cases hk : k ≤ xs.length
    · rw [Nat.min_eq_left hk] at h ht
      rw [show k + (t - k) = t by omega] at h
      exact ⟨a, h, by rw [if_neg (by omega)]⟩
    · have := (List.getElem?_eq_some_iff.1 h).1
      omega
theorem flK_of (xs : List S43) (k t : Nat) (b : S43) (h : xs[t]? = some b) : (flK xs k)[t]? = some (if t < k then flipS b else b) := by
  have ht := (List.getElem?_eq_some_iff.1 h).1
  obtain ⟨a, ha⟩ : ∃ a, (flK xs k)[t]? = some a := ⟨_, List.getElem?_eq_getElem (by rw [flK_len]; exact ht)⟩
  obtain ⟨b', hb, e⟩ := flK_at xs k t a ha
  rw [h] at hb
  injection hb with hb
  rw [ha, e, hb]
def FF (l : List S38) (i k j : Nat) : List S43 := if j < i then (FL l j).map flipS else if j = i then flK (FL l j) k else FL l j
theorem FF_start (l : List S38) : FF l 0 0 = FL l := by
  funext j
  unfold FF
  rw [if_neg (by omega), flK_zero]
  split <;> rfl
theorem FF_next (l : List S38) (i : Nat) {n : Nat} (h : (FL l i).length = n) : FF l i n = FF l (i + 1) 0 := by
  funext j
  unfold FF
  by_cases h1 : j < i
  · rw [if_pos h1, if_pos (by omega)]
  · rw [if_neg h1]
    by_cases h2 : j = i
    · subst h2
      rw [if_pos rfl, if_pos (by omega), ← h, flK_all]
    · rw [if_neg h2, if_neg (by omega), flK_zero]
      split <;> rfl
theorem FF_len (l : List S38) (i k j : Nat) : (FF l i k j).length = (FL l j).length := by
  unfold FF
  split
  · rw [List.length_map]
  · split
    · rw [flK_len]
    · rfl
def flipW (x : S38) : S38 := ⟨x.f0, x.f1.map flipS⟩
theorem withF_flip (l : List S38) : withF l (FF l l.length 0) = l.map flipW := by
  unfold withF
  apply List.ext_getElem?
  intro j
  rw [List.getElem?_mapIdx, List.getElem?_map]
  cases h : l[j]? with
  | none => rfl
  | some x =>
    have hj := (List.getElem?_eq_some_iff.1 h).1
    rw [Option.map_some, Option.map_some]
    unfold FF
    rw [if_pos hj, FL_at h]
    rfl
theorem arm_cell {W0 w : World} {g k : Nat} {xs : List S43} (h : ArmsBlk W0 w g xs) {a : S43} (hk : xs[k]? = some a) : w.cell? ⟨g, k * 5 + 1, none⟩ = some (.bool a.f1) := by
  obtain ⟨cs, h1, h2, h3⟩ := h
  have hl := (List.getElem?_eq_some_iff.1 hk).1
  obtain ⟨A4, c4, e, _, _⟩ := k43_open (h3 k a hk)
  rw [blk_cell h1, List.getElem?_toArray, List.getElem?_append_left (by omega), ← seg_get (s := 5) (by omega), e]
  rfl
theorem arm_frozen {W0 w : World} {g : Nat} {xs : List S43} (h : ArmsBlk W0 w g xs) (k : Nat) : w.frozen? ⟨g, k, none⟩ = false := by
  obtain ⟨cs, h1, _⟩ := h
  exact blk_frozen h1 k
theorem arm_kt {W0 w : World} {g : Nat} {xs : List S43} (h : ArmsBlk W0 w g xs) {t : TypeId} (ht : t ≠ 43) (j : Nat) (u : Value) : KT t w (w.setCell ⟨g, j, none⟩ u) := by
  obtain ⟨cs, h1, _⟩ := h
  exact KT.set h1 ht j u
theorem seg_set {cs : List Value} {j k i : Nat} {u : Value} (hi : i < 5) : seg (cs.set (k * 5 + i) u) 5 j = if j = k then (seg cs 5 k).set i u else seg cs 5 j := by
  apply List.ext_getElem?
  intro t
  by_cases ht : t < 5
  · rw [seg_get ht, List.getElem?_set]
    by_cases hjk : j = k
    · subst hjk
      rw [if_pos rfl, List.getElem?_set, seg_get ht]
      have hlen : (seg cs 5 j).length = min 5 (cs.length - j * 5) := by unfold seg; rw [List.length_take, List.length_drop]
      by_cases hit : i = t
      · subst hit
        rw [if_pos rfl, if_pos rfl, hlen]
        by_cases hb : j * 5 + i < cs.length
        · rw [if_pos hb, if_pos (by omega)]
        · rw [if_neg hb, if_neg (by omega)]
      · rw [if_neg (by omega), if_neg hit]
    · rw [if_neg hjk, seg_get ht, if_neg (by omega)]
  · have h1 : (seg (cs.set (k * 5 + i) u) 5 j).length ≤ 5 := by unfold seg; rw [List.length_take]; omega
    have h2 : (if j = k then (seg cs 5 k).set i u else seg cs 5 j).length ≤ 5 := by
      split
      · rw [List.length_set]; unfold seg; rw [List.length_take]; omega
      · unfold seg; rw [List.length_take]; omega
    rw [List.getElem?_eq_none (by omega), List.getElem?_eq_none (by omega)]
theorem ArmsBlk.flip {W0 w : World} {g k : Nat} {xs : List S43} (h : ArmsBlk W0 w g (flK xs k)) {b : S43} (hk : xs[k]? = some b) : ArmsBlk W0 (w.setCell ⟨g, k * 5 + 1, none⟩ (.bool (!b.f1))) g (flK xs (k + 1)) := by
  obtain ⟨cs, h1, h2, h3⟩ := h
  have hl := (List.getElem?_eq_some_iff.1 hk).1
  rw [flK_len] at h2
  refine ⟨cs.set (k * 5 + 1) (.bool (!b.f1)), ?_, by rw [List.length_set, flK_len, h2], fun t a ht => ?_⟩
  · rw [blk_set h1, List.setIfInBounds_toArray, List.set_append_left _ _ (by omega)]
  · obtain ⟨b', hb', rfl⟩ := flK_at xs (k + 1) t a ht
    rw [seg_set (by omega)]
    by_cases htk : t = k
    · subst htk
      rw [hk] at hb'
      injection hb' with hb'
      subst hb'
      rw [if_pos rfl, if_pos (by omega)]
      have hold := h3 t b (by have := flK_of xs t t b hk; rwa [if_neg (by omega)] at this)
      obtain ⟨A4, c4, e, l4, g4⟩ := k43_open hold
      rw [e]
      exact k43_mk W0 (flipS b) l4 g4
    · rw [if_neg htk]
      have := flK_of xs k t b' hb'
      have hold := h3 t _ this
      by_cases h4 : t < k
      · rw [if_pos h4] at hold
        rw [if_pos (by omega)]
        exact hold
      · rw [if_neg h4] at hold
        rw [if_neg (by omega)]
        exact hold
theorem nod_at {gs : List Nat} (h : gs.Nodup) {i j g : Nat} (hi : gs[i]? = some g) (hj : gs[j]? = some g) : i = j := by
  obtain ⟨h1, h2⟩ := List.getElem?_eq_some_iff.1 hi
  obtain ⟨h3, h4⟩ := List.getElem?_eq_some_iff.1 hj
  rcases Nat.lt_trichotomy i j with h5 | h5 | h5
  · exact absurd (h2.trans h4.symm) (List.pairwise_iff_getElem.1 h i j h1 h3 h5)
  · exact h5
  · exact absurd (h4.trans h2.symm) (List.pairwise_iff_getElem.1 h j i h3 h1 h5)
theorem Lent.flip {W0 w : World} {base ga i k g : Nat} {l : List S38} {gs : List Nat} {rest : List Value} {vr : Value} (h : Lent W0 w base l (FF l i k) gs ga rest vr) (hg : gs[i]? = some g) {x : S38} (hx : l[i]? = some x) {b : S43} (hk : x.f1[k]? = some b) :
    Lent W0 (w.setCell ⟨g, k * 5 + 1, none⟩ (.bool (!b.f1))) base l (FF l i (k + 1)) gs ga rest vr := by
  have hA := h.arms i g hg
  have e : FF l i k i = flK x.f1 k := by
    unfold FF
    rw [if_neg (by omega), if_pos rfl, FL_at hx]
  rw [e] at hA
  refine ⟨h.len, h.low, h.lows, h.nod, arm_kt hA (by decide) _ _ _ _ h.blk, R_kt rfl h.rows (arm_kt hA (by decide) _ _), fun j g' hg' => ?_, fun j y hy => ?_⟩
  · by_cases hj : j = i
    · subst hj
      rw [hg] at hg'
      injection hg' with hg'
      subst hg'
      have e2 : FF l j (k + 1) j = flK x.f1 (k + 1) := by
        unfold FF
        rw [if_neg (by omega), if_pos rfl, FL_at hx]
      rw [e2]
      exact hA.flip hk
    · have hne : g' ≠ g := by
        intro e
        subst e
        exact hj (nod_at h.nod hg' hg)
      have e3 : FF l i (k + 1) j = FF l i k j := by
        unfold FF
        rw [if_neg hj, if_neg hj]
      rw [e3]
      obtain ⟨cs, c1, c2, c3⟩ := h.arms j g' hg'
      exact ⟨cs, (Below.heap_setCell w ⟨g, k * 5 + 1, none⟩ _ g' hne).trans c1, c2, c3⟩
  · have := h.flen j y hy
    rw [FF_len] at this ⊢
    exact this
theorem Lent.slot {W0 w : World} {base ga i g n c : Nat} {A : Option Addr} {l : List S38} {F : Nat → List S43} {gs : List Nat} {rest : List Value} (h : Lent W0 w base l F gs ga rest (.slice A n c)) (hg : gs[i]? = some g) {x : S38} (hx : l[i]? = some x) :
    ∃ go, A = some ⟨go, 0, none⟩ ∧ w.cell? ⟨go, i, none⟩ = some (.slice (some ⟨g, 0, none⟩) (x.f1.length + 1) (x.f1.length + 1)) := by
  have hi := (List.getElem?_eq_some_iff.1 hx).1
  have hn := (Kd.R_reads' h.rows).1
  have hr := rowsM_at l gs i x g h.len hx hg
  have hlen := rowsM_len l gs h.len
  obtain ⟨go, c', e, _, _⟩ := Kd.R_form h.rows (by rw [hlen]; omega)
  injection e with e1 e2 e3
  subst e1
  refine ⟨go, rfl, ?_⟩
  obtain ⟨c', hcl, hM, hcc, _⟩ := Kd.R_elem h.rows [] (i : Int) (by omega) (by omega)
  rw [Int.toNat_natCast] at hM hcc
  have e : (rowsM l gs).getD i [] = rowM x g := by rw [List.getD_eq_getElem?_getD, hr]; rfl
  rw [e] at hM
  obtain ⟨rfl, _⟩ := hM
  have := hcc 0 _ rfl
  have e2 : (Kd.raw 1).sz = 1 := rfl
  rwa [e2, Nat.mul_one] at this
end Go.Proofs.Ytokbonceeglciaa.Bk
end
section
namespace Go.Proofs.Ytokbonceeglciaa.Given
open Go.RowKit Go.Shelf Go.Proofs.YtokbonceeglciaaW.PrintWords Go.Proofs.YtokbonceeglciaaW.PrintLast Go.Proofs.YtokbonceeglciaaW.PrintMore Go.Proofs.Ytokbonceeglciaa.Print Go.Proofs.Ytokbonceeglciaa.Bk
set_option linter.unusedVariables false
set_option linter.unusedSimpArgs false
def revP (x : S47) : S47 := ⟨x.f2, x.f3, x.f0, x.f1, x.f4⟩
theorem revP_revP (x : S47) : revP (revP x) = x := rfl
theorem revP_inj {x y : S47} (h : revP x = revP y) : x = y := by rw [← revP_revP x, ← revP_revP y, h]
theorem flipS_flipS (a : S43) : flipS (flipS a) = a := by
  obtain ⟨c, s, v⟩ := a
  simp [flipS]
theorem flipW_flipW (x : S38) : flipW (flipW x) = x := by
  obtain ⟨i, us⟩ := x
  have : (fun a => flipS (flipS a)) = id := funext flipS_flipS
  simp [flipW, Function.comp_def, this]
theorem map_flip_flip (l : List S38) : (l.map flipW).map flipW = l := by
  rw [List.map_map]
  have : flipW ∘ flipW = id := funext flipW_flipW
  rw [this, List.map_id]
theorem rightGo_flip : ∀ (l : List S38) (last : Int), rightGo last (l.map flipW) = rightGo last l
  | [], _ => rfl
  | x :: r, last => by
    rw [List.map_cons, rightGo, rightGo, rightGo_flip r]
    rfl
theorem right_flip (l : List S38) : rightOf (l.map flipW) = rightOf l := rightGo_flip l (-1)
theorem pair_flip {l : List S38} {x : S47} (h : PairOf l x) : PairOf (l.map flipW) (revP x) := by
  obtain ⟨p, q, i, j, a, b, hp, hq, ha, hb, h1, h2, h3, h4, h5, rfl⟩ := h
  refine ⟨flipW q, flipW p, j, i, flipS b, flipS a, List.mem_map_of_mem hq, List.mem_map_of_mem hp, ?_, ?_, ?_, ?_, ?_, ?_, ?_, ?_⟩
  · show (q.f1.map flipS)[j]? = _
    rw [List.getElem?_map, hb]
    rfl
  · show (p.f1.map flipS)[i]? = _
    rw [List.getElem?_map, ha]
    rfl
  · show (!b.f1) = true
    rw [h2]
    rfl
  · show (!a.f1) = false
    rw [h1]
    rfl
  · show 0 < b.f0
    omega
  · show a.f0 = b.f0
    exact h4.symm
  · exact fun e => h5 e.symm
  · show (⟨q.f0, (j : Int), p.f0, (i : Int), a.f0⟩ : S47) = ⟨q.f0, (j : Int), p.f0, (i : Int), b.f0⟩
    rw [h4]
theorem pair_back {l : List S38} {x : S47} (h : PairOf (l.map flipW) x) : PairOf l (revP x) := by
  have := pair_flip h
  rwa [map_flip_flip] at this
theorem pairs_rev {l : List S38} {y : S47} (h : y ∈ pairsOf (l.map flipW)) : revP y ∈ pairsOf l := by
  by_cases hr : rightOf l = true
  · have hr2 : rightOf (l.map flipW) = true := by rw [right_flip]; exact hr
    exact (pairs_mem hr _).2 (pair_back ((pairs_mem hr2 _).1 h))
  · unfold pairsOf at h
    rw [right_flip, if_neg hr] at h
    cases h
theorem rev_nodup {l : List S47} (h : l.Nodup) : (l.map revP).Nodup := by
  unfold List.Nodup
  rw [List.pairwise_map]
  exact h.imp (fun hne e => hne (revP_inj e))
theorem pairs_flip_len (l : List S38) : (pairsOf l).length = (pairsOf (l.map flipW)).length := by
  by_cases hr : rightOf l = true
  · have hr2 : rightOf (l.map flipW) = true := by rw [right_flip]; exact hr
    have h1 := nodup_len (rev_nodup (sorted_nodup (pairs_sorted hr))) (l2 := pairsOf (l.map flipW)) (fun x hx => by
      obtain ⟨y, hy, rfl⟩ := List.mem_map.1 hx
      exact (pairs_mem hr2 _).2 (pair_flip ((pairs_mem hr _).1 hy)))
    have h2 := nodup_len (rev_nodup (sorted_nodup (pairs_sorted hr2))) (l2 := pairsOf l) (fun x hx => by
      obtain ⟨y, hy, rfl⟩ := List.mem_map.1 hx
      exact pairs_rev hy)
    rw [List.length_map] at h1 h2
    omega
  · unfold pairsOf
    rw [right_flip, if_neg hr, if_neg hr]
theorem rightGo_of : ∀ (l : List S38) (last : Int), (∀ x ∈ l, last < x.f0) → l.Pairwise (fun x y => x.f0 < y.f0) → rightGo last l = true
  | [], _, _, _ => rfl
  | x :: r, last, h, hp => by
    have h1 := h x (by simp)
    have h2 := List.pairwise_cons.1 hp
    rw [rightGo, if_neg (by omega)]
    exact rightGo_of r x.f0 h2.1 h2.2
theorem leave_says {l : List S38} (hr : rightOf l = true) {who : Nat} {x : S38} (hx : l[who]? = some x) : rightOf (l.take who ++ l.drop (who + 1)) = true ∧ ∀ p, p ∈ l.take who ++ l.drop (who + 1) ↔ p ∈ l ∧ p.f0 ≠ x.f0 := by
  obtain ⟨hpos, hs⟩ := right_says hr
  obtain ⟨hlt, hxe⟩ := List.getElem?_eq_some_iff.1 hx
  have hl : l = l.take who ++ x :: l.drop (who + 1) := by
    rw [← hxe, ← List.drop_eq_getElem_cons hlt, List.take_append_drop]
  have hsub : (l.take who ++ l.drop (who + 1)).Sublist l := by
    have h1 : (l.take who ++ l.drop (who + 1)).Sublist (l.take who ++ x :: l.drop (who + 1)) := (List.Sublist.refl _).append (List.sublist_cons_self _ _)
    rw [← hl] at h1
    exact h1
  refine ⟨rightGo_of _ _ (fun y hy => by have := hpos y (hsub.subset hy); omega) (hs.sublist hsub), fun p => ?_⟩
  rw [hl] at hs
  have hs2 := List.pairwise_append.1 hs
  have hs3 := List.pairwise_cons.1 hs2.2.1
  constructor
  · intro hp
    refine ⟨hsub.subset hp, ?_⟩
    rcases List.mem_append.1 hp with hp | hp
    · have := hs2.2.2 p hp x (by simp)
      omega
    · have := hs3.1 p hp
      omega
  · rintro ⟨hp, hne⟩
    rw [hl] at hp
    rcases List.mem_append.1 hp with hp | hp
    · exact List.mem_append_left _ hp
    · rcases List.mem_cons.1 hp with rfl | hp
      · exact absurd rfl hne
      · exact List.mem_append_right _ hp
theorem pairs_leave {l : List S38} (hr : rightOf l = true) {who : Nat} {x : S38} (hx : l[who]? = some x) : pairsOf (l.take who ++ l.drop (who + 1)) = (pairsOf l).filter (fun y => y.f0 != x.f0 && y.f2 != x.f0) := by
  obtain ⟨hr2, hmem⟩ := leave_says hr hx
  refine sorted_ext (pairs_sorted hr2) ((pairs_sorted hr).filter _) fun y => ?_
  rw [List.mem_filter, pairs_mem hr2, pairs_mem hr]
  constructor
  · rintro ⟨p, q, i, j, a, b, hp, hq, ha, hb, h1, h2, h3, h4, h5, rfl⟩
    obtain ⟨hp1, hp2⟩ := (hmem p).1 hp
    obtain ⟨hq1, hq2⟩ := (hmem q).1 hq
    refine ⟨⟨p, q, i, j, a, b, hp1, hq1, ha, hb, h1, h2, h3, h4, h5, rfl⟩, ?_⟩
    simp [hp2, hq2]
  · rintro ⟨⟨p, q, i, j, a, b, hp, hq, ha, hb, h1, h2, h3, h4, h5, rfl⟩, hf⟩
    simp at hf
    exact ⟨p, q, i, j, a, b, (hmem p).2 ⟨hp, hf.1⟩, (hmem q).2 ⟨hq, hf.2⟩, ha, hb, h1, h2, h3, h4, h5, rfl⟩
theorem arms_leave (l : List S38) (who : Nat) : arms (l.take who ++ l.drop (who + 1)) ≤ arms l := by
  have h : arms l = arms (l.take who ++ l.drop who) := by rw [List.take_append_drop]
  simp only [arms, List.map_append, List.sum_append] at h ⊢
  have h2 : ((l.drop (who + 1)).map fun x => x.f1.length).sum ≤ ((l.drop who).map fun x => x.f1.length).sum := by
    by_cases hw : who < l.length
    · rw [List.drop_eq_getElem_cons hw, List.map_cons, List.sum_cons]
      omega
    · rw [List.drop_eq_nil_of_le (by omega), List.drop_eq_nil_of_le (by omega)]
      exact Nat.le_refl _
  omega
end Go.Proofs.Ytokbonceeglciaa.Given
end
section
namespace Go.Proofs.Ytokbonceeglciaa.Bk
open Go.RowKit Go.Proofs.YtokbonceeglciaaW.PrintWords Go.Proofs.YtokbonceeglciaaW.PrintLast Go.Proofs.YtokbonceeglciaaW.PrintMore Go.Proofs.Ytokbonceeglciaa.Print Go.Proofs.Ytokbonceeglciaa.Given
set_option linter.unusedVariables false
set_option linter.unusedSimpArgs false
def KX (w w1 : World) : Prop := ∀ t, t ≠ 33 → t ≠ 28 → KT t w w1
abbrev BkAt (w : World) (g base : Nat) (vo vw : Value) (fr : Int) (ol wl : List Value) : Prop := Book w g base 28 33 vo vw fr ol wl
end Go.Proofs.Ytokbonceeglciaa.Bk
end
section
namespace Go.Proofs.Ytokbonceeglciaa.Bk
open Go.RowKit Go.Proofs.YtokbonceeglciaaW.PrintWords Go.Proofs.YtokbonceeglciaaW.PrintLast Go.Proofs.YtokbonceeglciaaW.PrintMore Go.Proofs.Ytokbonceeglciaa.Print Go.Proofs.Ytokbonceeglciaa.Given
set_option linter.unusedVariables false
set_option linter.unusedSimpArgs false
end Go.Proofs.Ytokbonceeglciaa.Bk
end
section
namespace Go.Proofs.Ytokbonceeglciaa.Bk
open Go.RowKit Go.Proofs.YtokbonceeglciaaW.PrintWords Go.Proofs.YtokbonceeglciaaW.PrintLast Go.Proofs.YtokbonceeglciaaW.PrintMore Go.Proofs.Ytokbonceeglciaa.Print Go.Proofs.Ytokbonceeglciaa.Given
set_option linter.unusedVariables false
set_option linter.unusedSimpArgs false
end Go.Proofs.Ytokbonceeglciaa.Bk
end
section
namespace Go.Proofs.Ytokbonceeglciaa.Bk
open Go.RowKit Go.Proofs.YtokbonceeglciaaW.PrintWords Go.Proofs.YtokbonceeglciaaW.PrintLast Go.Proofs.YtokbonceeglciaaW.PrintMore Go.Proofs.Ytokbonceeglciaa.Print Go.Proofs.Ytokbonceeglciaa.Given
set_option linter.unusedVariables false
set_option linter.unusedSimpArgs false
def Fr (base : Nat) (w w1 : World) : Prop := Below base w w1 ∧ KX w w1
theorem Fr.refl (base : Nat) (w : World) : Fr base w w := ⟨Below.refl _ _, fun t _ _ => KT.refl t w⟩
theorem Fr.trans {base : Nat} {w w1 w2 : World} (h : Fr base w w1) (k : Fr base w1 w2) : Fr base w w2 := ⟨h.1.trans k.1, fun t h1 h2 => (h.2 t h1 h2).trans (k.2 t h1 h2)⟩
theorem Fr.below {base : Nat} {w w1 : World} (h : Below w.heap.size w w1) (hb : base ≤ w.heap.size) : Fr base w w1 := ⟨h.mono hb, fun t _ _ => KT.below h⟩
theorem Fr.then_ {base : Nat} {w w1 w2 : World} (h : Fr base w w1) (hb : base ≤ w.heap.size) (k : Below w1.heap.size w1 w2) : Fr base w w2 := h.trans (Fr.below k (Nat.le_trans hb h.1.size))
theorem Fr.blk {base g : Nat} {t : TypeId} {w w1 : World} {cs : Array Value} (h : Fr base w w1) (hb : w.heap[g]? = some (.cells cs t (0, 0))) (h1 : t ≠ 33) (h2 : t ≠ 28) : w1.heap[g]? = some (.cells cs t (0, 0)) := h.2 t h1 h2 g cs hb
theorem Fr.R {base b : Nat} {w w1 : World} {v : Value} {xs : List S47} (h : Fr base w w1) (hr : Kd.R k47 47 w b Any v xs) : Kd.R k47 47 w1 b Any v xs := R_kt rfl hr (h.2 47 (by decide) (by decide))
theorem Fr.C {α : Type} {d : Kd α} {w w1 : World} {A : Option Addr} {n : Nat} {xs : List α} (h : Fr w.heap.size w w1) (hr : Kd.C d w A n xs) : Kd.C d w1 A n xs := Kd.C_below hr h.1
structure BS (w : World) (gh base : Nat) (ol wl : List Value) (cs : List (List S47)) : Prop where
  bk : ∃ vo vw, BkAt w gh base vo vw 0 ol wl
  lo : Lists k47 w base 47 ol cs
  lw : Lists k47 w base 47 wl cs
  pt : Parted (ol ++ wl)
  bd : ∀ xs ∈ cs, xs.length ≤ 100000000
  sz : base ≤ w.heap.size
theorem BS.kt {w w1 : World} {gh base : Nat} {ol wl : List Value} {cs : List (List S47)} (h : BS w gh base ol wl cs) (h1 : KT 28 w w1) (h2 : KT 33 w w1) (h3 : KT 47 w w1) (hs : w.heap.size ≤ w1.heap.size) : BS w1 gh base ol wl cs := by
  obtain ⟨vo, vw, hb⟩ := h.bk
  exact ⟨⟨vo, vw, hb.kt h1 h2⟩, h.lo.kt rfl h3, h.lw.kt rfl h3, h.pt, h.bd, Nat.le_trans h.sz hs⟩
theorem BS.below {w w1 : World} {gh base : Nat} {ol wl : List Value} {cs : List (List S47)} (h : BS w gh base ol wl cs) (hb : Below w.heap.size w w1) : BS w1 gh base ol wl cs := h.kt (KT.below hb) (KT.below hb) (KT.below hb) hb.size
def Fo (e : TypeId) (base : Nat) (w w1 : World) : Prop := Below base w w1 ∧ ∀ t, t ≠ e → KT t w w1
theorem Fo.refl (e : TypeId) (base : Nat) (w : World) : Fo e base w w := ⟨Below.refl _ _, fun t _ => KT.refl t w⟩
theorem Fo.trans {e : TypeId} {base : Nat} {w w1 w2 : World} (h : Fo e base w w1) (k : Fo e base w1 w2) : Fo e base w w2 := ⟨h.1.trans k.1, fun t ht => (h.2 t ht).trans (k.2 t ht)⟩
theorem Fo.below {e : TypeId} {base : Nat} {w w1 : World} (h : Below w.heap.size w w1) (hb : base ≤ w.heap.size) : Fo e base w w1 := ⟨h.mono hb, fun t _ => KT.below h⟩
end Go.Proofs.Ytokbonceeglciaa.Bk
end
section
namespace Go.Proofs.Ytokbonceeglciaa.Opens
open Go.RowKit Go.Proofs.YtokbonceeglciaaW.PrintWords
def Opens {α : Type} (P : Program) (W : World) (t : TypeId) (d : Kd α) (wf : α → Prop) : Prop :=
  ∀ (H : Type) (enc : TypeId × Value → H) (base : Nat) (sp : Nat → Bool) (held : Bool) (fuel : Nat) (cs : List Value) (x : DataW H × List MemPlace),
    DataW.trod enc P W base sp held fuel t cs = some x → (∀ k, k ∈ x.1.weights P t → k ≤ reachBytes) → ∃ a, d.K W a cs ∧ wf a
variable {P : Program} {W : World} {t e : TypeId}
theorem opens_int {k : IntKind} (ht : P.underlying t = some (.int k)) : Opens P W t (Kd.int k) (fun n => (Lit.int k n).wf = true) := by
  intro H enc base sp held fuel cs x h hw
  obtain ⟨n, rfl, rfl, hn⟩ := DataW.trod_int ht h
  exact ⟨n, rfl, hn⟩
theorem mem_weightsAll {H : Type} {P : Program} {e : TypeId} {d : DataW H} {k : Nat} : ∀ {l : List (DataW H)}, d ∈ l → k ∈ d.weights P e → k ∈ DataW.weightsAll P e l
  | [], h, _ => by cases h
  | a :: l, h, hk => by
    unfold DataW.weightsAll
    rcases List.mem_cons.1 h with rfl | h
    · exact List.mem_append_left _ hk
    · exact List.mem_append_right _ (mem_weightsAll h hk)
theorem exists_list {α : Type} {p : Nat → α → Prop} : ∀ (n : Nat), (∀ i, i < n → ∃ a, p i a) → ∃ l : List α, l.length = n ∧ ∀ i a, l[i]? = some a → p i a
  | 0, _ => ⟨[], rfl, fun i a h => by simp at h⟩
  | n + 1, h => by
    obtain ⟨l, hl, hp⟩ := exists_list n (fun i hi => h i (Nat.lt_succ_of_lt hi))
    obtain ⟨a, ha⟩ := h n (Nat.lt_succ_self n)
    refine ⟨l ++ [a], by simp [hl], fun i b hb => ?_⟩
    by_cases hi : i < l.length
    · rw [List.getElem?_append_left hi] at hb
      exact hp i b hb
    · rw [List.getElem?_append_right (by omega)] at hb
      have hi2 : i - l.length = 0 := by
        cases hq : i - l.length with
        | zero => rfl
        | succ m => rw [hq] at hb; simp at hb
      rw [hi2] at hb
      injection hb with hb
      subst hb
      have : i = n := by omega
      subst this
      exact ha
theorem opens_slice {α : Type} {d : Kd α} {wf : α → Prop} {bytes : Nat} (ht : P.underlying t = some (.slice e)) (hc : P.cellsOf e = d.sz) (hb : P.bytesOf e = bytes) (he : Opens P W e d wf) :
    Opens P W t (Kd.slice e d) (fun xs => (∀ x ∈ xs, wf x) ∧ xs.length * bytes ≤ 140737488351232) := by
  intro H enc base sp held fuel cs x h hw
  rcases Deep.open_slice ht h with ⟨rfl, rfl⟩ | ⟨a, len, cap, m, n, D, Pl, rfl, hba, hl, hm, hmm, rfl, hel⟩
  · exact ⟨[], ⟨none, 0, rfl, Nat.le_refl _, Kd.C_nil _ _⟩, fun x hx => (by cases hx), by simp⟩
  have hlm : len ≤ m := by rw [hmm]; split <;> omega
  have hW : ∀ i, i < len → ∀ k, k ∈ (D i).weights P e → k ≤ reachBytes := by
    intro i hi k hk
    refine hw k ?_
    unfold DataW.weights
    rw [ht]
    refine List.mem_cons_of_mem _ (List.mem_append_left _ ?_)
    exact mem_weightsAll (List.mem_map.2 ⟨i, List.mem_range.2 hi, rfl⟩) hk
  obtain ⟨xs, hxl, hxs⟩ := exists_list (p := fun i (a' : α) => wf a' ∧ ∃ cs', W.cells? base (a.add (i * P.cellsOf e)) (P.cellsOf e) = some cs' ∧ d.K W a' cs') len (fun i hi => by
    obtain ⟨cs', h1, h2⟩ := hel i (by omega)
    obtain ⟨a', hk, hwf⟩ := he H enc base sp held n cs' _ h2 (hW i hi)
    exact ⟨a', hwf, cs', h1, hk⟩)
  refine ⟨xs, ⟨some a, cap, by rw [hxl], by rw [hxl]; exact hl, ?_⟩, fun x hx => ?_, ?_⟩
  · refine ⟨rfl, ?_, fun _ => ⟨a, rfl, fun j p hj => ?_⟩⟩
    · rw [hxl]
      exact Nat.le_trans hl (Nat.le_trans hm (by decide))
    · obtain ⟨_, cs', h1, hk⟩ := hxs j p hj
      refine ⟨cs', d.K_len hk, hk, fun i u hu => ?_⟩
      obtain ⟨_, hlen, hcell⟩ := World.cells?_some h1
      rw [hc] at hcell hlen
      have hi : i < cs'.length := (List.getElem?_eq_some_iff.1 hu).1
      have := hcell i (by omega)
      rw [Deep.add_add] at this
      rw [this, hu]
  · obtain ⟨i, hi⟩ := List.mem_iff_getElem?.1 hx
    exact (hxs i x hi).1
  · have := hw ((((List.range len).map D).length + ((List.range (m - len)).map fun j => D (len + j)).length) * P.bytesOf e) (by
      unfold DataW.weights
      rw [ht]
      exact List.mem_cons_self)
    simp only [List.length_map, List.length_range] at this
    rw [hb] at this
    rw [hxl]
    exact Nat.le_trans (Nat.mul_le_mul_right _ (by omega)) this
end Go.Proofs.Ytokbonceeglciaa.Opens
end
section
namespace Go.Proofs.Ytokbonceeglciaa.Given
open Go.RowKit Go.Proofs.YtokbonceeglciaaW.PrintWords Go.Proofs.Ytokbonceeglciaa.Print
set_option linter.unusedVariables false
set_option linter.unusedSimpArgs false
def wfN (n : Int) : Prop := (Lit.int .i64 n).wf = true
theorem opens3 (W : World) : Opens.Opens Try.prog W 3 (Kd.int .i64) wfN := Opens.opens_int Try.underlying3
theorem slice_lt {α : Type} {P : Program} {W : World} {t e : TypeId} {d : Kd α} (ht : P.underlying t = some (.slice e)) (hc : P.cellsOf e = d.sz) {H : Type} {enc : TypeId × Value → H} {base : Nat} {sp : Nat → Bool} {held : Bool} {fuel : Nat} {cs : List Value} {x : DataW H × List MemPlace}
    (h : DataW.trod enc P W base sp held fuel t cs = some x) (he : ∀ (f : Nat) (c : List Value) (y : DataW H × List MemPlace), SizeOf.sizeOf y.1 < SizeOf.sizeOf x.1 → DataW.trod enc P W base sp held f e c = some y → ∃ a, d.K W a c) : ∃ xs, (Kd.slice e d).K W xs cs := by
  rcases Deep.open_slice ht h with ⟨rfl, rfl⟩ | ⟨a, len, cap, m, n, D, Pl, rfl, hba, hl, hm, hmm, rfl, hel⟩
  · exact ⟨[], none, 0, rfl, Nat.le_refl _, Kd.C_nil _ _⟩
  have hlm : len ≤ m := by rw [hmm]; split <;> omega
  obtain ⟨xs, hxl, hxs⟩ := Opens.exists_list (p := fun i (a' : α) => ∃ cs', W.cells? base (a.add (i * P.cellsOf e)) (P.cellsOf e) = some cs' ∧ d.K W a' cs') len (fun i hi => by
    obtain ⟨cs', h1, h2⟩ := hel i (by omega)
    have hlt : SizeOf.sizeOf (D i) < SizeOf.sizeOf (DataW.slice ((List.range len).map D) ((List.range (m - len)).map fun j => D (len + j))) := by
      have h3 := List.sizeOf_lt_of_mem (List.mem_map.2 ⟨i, List.mem_range.2 hi, rfl⟩ : D i ∈ (List.range len).map D)
      simp only [DataW.slice.sizeOf_spec]
      omega
    obtain ⟨a', hk⟩ := he n cs' _ hlt h2
    exact ⟨a', cs', h1, hk⟩)
  refine ⟨xs, some a, cap, by rw [hxl], by rw [hxl]; exact hl, ?_⟩
  refine ⟨rfl, ?_, fun _ => ⟨a, rfl, fun j p hj => ?_⟩⟩
  · rw [hxl]
    exact Nat.le_trans hl (Nat.le_trans hm (by decide))
  · obtain ⟨cs', h1, hk⟩ := hxs j p hj
    refine ⟨cs', d.K_len hk, hk, fun i u hu => ?_⟩
    obtain ⟨_, hlen, hcell⟩ := World.cells?_some h1
    rw [hc] at hcell hlen
    have hi : i < cs'.length := (List.getElem?_eq_some_iff.1 hu).1
    have := hcell i (by omega)
    rw [Deep.add_add] at this
    rw [this, hu]
theorem open41 (W : World) {H : Type} {enc : TypeId × Value → H} {base : Nat} {sp : Nat → Bool} {held : Bool} : ∀ (N fuel : Nat) (cs : List Value) (x : DataW H × List MemPlace), SizeOf.sizeOf x.1 < N → DataW.trod enc Try.prog W base sp held fuel 41 cs = some x → ∃ a, k41.K W a cs
  | 0, _, _, _, hN, _ => absurd hN (Nat.not_lt_zero _)
  | N + 1, fuel, cs, x, hN, h => by
    obtain ⟨xs, n, _, rfl, hl, hlen, hf⟩ := DataW.trod_struct Try.underlying41 h
    rw [show Try.prog.cellsOf 41 = 3 by kernel_rfl] at hl
    match cs, hl, xs, (show xs.length = 3 from hlen) with
    | [c0, c1, c2], _, [y0, y1, y2], _ =>
      have h0 : DataW.trod enc Try.prog W base sp held n 3 [c0] = some y0 := by
        have := hf 0 _ rfl
        simpa [show Try.prog.cellsOf 3 = 1 by kernel_rfl] using this
      have h1 : DataW.trod enc Try.prog W base sp held n 3 [c1] = some y1 := by
        have := hf 1 _ rfl
        simpa [show Try.prog.cellsOf 3 = 1 by kernel_rfl] using this
      have h2 : DataW.trod enc Try.prog W base sp held n 39 [c2] = some y2 := by
        have := hf 2 _ rfl
        simpa [show Try.prog.cellsOf 39 = 1 by kernel_rfl] using this
      obtain ⟨m0, e0, _⟩ := DataW.trod_int Try.underlying3 h0
      injection e0 with e0 _
      subst e0
      obtain ⟨m1, e1, _⟩ := DataW.trod_int Try.underlying3 h1
      injection e1 with e1 _
      subst e1
      obtain ⟨l, A2, c2', e, hle, hC⟩ := slice_lt (d := k41) Try.underlying39 (by kernel_rfl) h2 (fun f c y hy hyt => open41 W N f c y (by
        simp only [List.map_cons, List.map_nil, DataW.agg.sizeOf_spec, List.cons.sizeOf_spec] at hN
        omega) hyt)
      injection e with e
      subst e
      exact ⟨⟨m0, m1, l⟩, k41_mk W ⟨m0, m1, l⟩ hle hC⟩
theorem opens43 (W : World) : Opens.Opens Try.prog W 43 k43 (fun _ => True) := by
  intro H enc base sp held fuel cs x h hw
  obtain ⟨xs, n, _, rfl, hl, hlen, hf⟩ := DataW.trod_struct Try.underlying43 h
  rw [show Try.prog.cellsOf 43 = 5 by kernel_rfl] at hl
  match cs, hl, xs, (show xs.length = 3 from hlen) with
  | [c0, c1, c2, c3, c4], _, [y0, y1, y2], _ =>
    have h0 : DataW.trod enc Try.prog W base sp held n 3 [c0] = some y0 := by
      have := hf 0 _ rfl
      simpa [show Try.prog.cellsOf 3 = 1 by kernel_rfl] using this
    have h1 : DataW.trod enc Try.prog W base sp held n 4 [c1] = some y1 := by
      have := hf 1 _ rfl
      simpa [show Try.prog.cellsOf 4 = 1 by kernel_rfl] using this
    have h2 : DataW.trod enc Try.prog W base sp held n 41 [c2, c3, c4] = some y2 := by
      have := hf 2 _ rfl
      simpa [show Try.prog.cellsOf 41 = 3 by kernel_rfl] using this
    obtain ⟨m0, e0, _⟩ := DataW.trod_int Try.underlying3 h0
    injection e0 with e0 _
    subst e0
    obtain ⟨b, e1, _⟩ := DataW.trod_bool Try.underlying4 h1
    injection e1 with e1 _
    subst e1
    obtain ⟨v, hv⟩ := open41 W _ n _ _ (Nat.lt_succ_self _) h2
    obtain ⟨A2, c2', e, hle, hC⟩ := k41_open hv
    rw [e]
    exact ⟨⟨m0, b, v⟩, k43_mk W ⟨m0, b, v⟩ hle hC, trivial⟩
def wfA (xs : List S43) : Prop := (∀ x ∈ xs, True) ∧ xs.length * 56 ≤ 140737488351232
theorem opens36 (W : World) : Opens.Opens Try.prog W 36 (Kd.slice 43 k43) wfA := Opens.opens_slice Try.underlying36 (by kernel_rfl) (by kernel_rfl) (opens43 W)
def wfW (x : S38) : Prop := wfN x.f0 ∧ wfA x.f1
theorem opens38 (W : World) : Opens.Opens Try.prog W 38 k38 wfW := by
  intro H enc base sp held fuel cs x h hw
  obtain ⟨xs, n, _, rfl, hl, hlen, hf⟩ := DataW.trod_struct Try.underlying38 h
  rw [show Try.prog.cellsOf 38 = 2 by kernel_rfl] at hl
  match cs, hl, xs, (show xs.length = 2 from hlen) with
  | [c0, c1], _, [y0, y1], _ =>
    have h0 : DataW.trod enc Try.prog W base sp held n 3 [c0] = some y0 := by
      have := hf 0 _ rfl
      simpa [show Try.prog.cellsOf 3 = 1 by kernel_rfl] using this
    have h1 : DataW.trod enc Try.prog W base sp held n 36 [c1] = some y1 := by
      have := hf 1 _ rfl
      simpa [show Try.prog.cellsOf 36 = 1 by kernel_rfl] using this
    have hw' : ∀ k, k ∈ y0.1.weights Try.prog 3 ∨ k ∈ y1.1.weights Try.prog 36 → k ≤ reachBytes := by
      intro k hk
      refine hw k ?_
      unfold DataW.weights
      rw [Try.underlying38]
      simp only [List.map_cons, List.map_nil, DataW.weightsEach, List.mem_append, List.not_mem_nil, or_false]
      exact hk
    obtain ⟨a0, q0, w0⟩ := opens3 W H enc base sp held n _ _ h0 (fun k hk => hw' k (Or.inl hk))
    obtain ⟨a1, q1, w1⟩ := opens36 W H enc base sp held n _ _ h1 (fun k hk => hw' k (Or.inr hk))
    exact ⟨⟨a0, a1⟩, ⟨[c0], [c1], rfl, q0, q1⟩, w0, w1⟩
def wfWs (l : List S38) : Prop := (∀ x ∈ l, wfW x) ∧ l.length * 32 ≤ 140737488351232
theorem opens22 (W : World) : Opens.Opens Try.prog W 22 (Kd.slice 38 k38) wfWs := Opens.opens_slice Try.underlying22 (by kernel_rfl) (by kernel_rfl) (opens38 W)
theorem wfWs_len {l : List S38} (h : wfWs l) : l.length ≤ 4611686018427387904 ∧ ∀ x ∈ l, x.f1.length ≤ 4611686018427387904 :=
  ⟨by have := h.2; omega, fun x hx => by have := (h.1 x hx).2.2; omega⟩
end Go.Proofs.Ytokbonceeglciaa.Given
end
section
namespace Go.Proofs.Ytokbonceeglciaa.Bk
open Go.RowKit Go.Proofs.YtokbonceeglciaaW.PrintWords Go.Proofs.YtokbonceeglciaaW.PrintLast Go.Proofs.YtokbonceeglciaaW.PrintMore Go.Proofs.Ytokbonceeglciaa.Print Go.Proofs.Ytokbonceeglciaa.Given
set_option linter.unusedVariables false
set_option linter.unusedSimpArgs false
theorem heap41 : Kd.Heap k41 := Kd.heap_fix (fun d hd => Kd.heap_iso _ (Kd.heap_pair (Kd.heap_int _) (Kd.heap_pair (Kd.heap_int _) (Kd.heap_slice 41 hd))))
theorem heap43 : Kd.Heap k43 := Kd.heap_iso _ (Kd.heap_pair (Kd.heap_int _) (Kd.heap_pair Kd.heap_bool heap41))
theorem heap38 : Kd.Heap k38 := Kd.heap_iso _ (Kd.heap_pair (Kd.heap_int _) (Kd.heap_slice 43 heap43))
theorem arm_any (A : Option Addr) (c : Nat) (l : List S38) (p : S38) (n : Nat) (a : S43) (W : World) (hC : Kd.C k38 W A l.length l) (hc : l.length ≤ c) (hm : l.length ≤ 4611686018427387904) (hs : l.Pairwise (fun x y => x.f0 < y.f0)) (hp : p ∈ l) (hn : p.f1[n]? = some a) :
    Calls Try.prog 18 #[.slice A l.length c, .int .i64 p.f0, .int .i64 (n : Int)] W fun e w' => ∃ (v0 v1 : Int) (A4 : Option Addr) (n4 c4 : Nat), e = .returned (.agg #[.int .i64 a.f0, .bool a.f1, .int .i64 v0, .int .i64 v1, .slice A4 n4 c4]) ∧ Below W.heap.size W w' := by
  obtain ⟨k, hk⟩ := arm_says hm hs hp hn
  refine (squintlaw13_arm.calls k (fun k => k < W.heap.size) A c l p.f0 n _ _ _ _ _ W ⟨A, c, rfl, hc, Kd.C_F heap38 hC⟩ hk).mono ?_
  rintro e w' ⟨v4, rfl, ⟨A4, c4, rfl, _, _⟩, hb⟩
  exact ⟨_, _, A4, _, c4, rfl, hb⟩
theorem same_total_loop (x y : List S47) (hl : x.length ≤ 4611686018427387904) (he : x.length = y.length) : ∀ (d n : Nat), n + d = x.length → ∃ b, Given.Ev (fun k => squintlaw13_same.l0 k x y (n : Int)) b
  | 0, n, hd => ⟨true, Given.Ev.done fun k => by
    unfold squintlaw13_same.l0
    rw [if_neg (by omega)]⟩
  | d + 1, n, hd => by
    obtain ⟨b, hb⟩ := same_total_loop x y hl he d (n + 1) (by omega)
    by_cases hc : (!(((rd_T47 x (n : Int)).f0) == ((rd_T47 y (n : Int)).f0)) || (!(((rd_T47 x (n : Int)).f1) == ((rd_T47 y (n : Int)).f1)) || (!(((rd_T47 x (n : Int)).f2) == ((rd_T47 y (n : Int)).f2)) || (!(((rd_T47 x (n : Int)).f3) == ((rd_T47 y (n : Int)).f3)) || (!(((rd_T47 x (n : Int)).f4) == ((rd_T47 y (n : Int)).f4))))))) = true
    · refine ⟨false, Given.Ev.done fun k => ?_⟩
      show squintlaw13_same.l0 (k + 1) x y (n : Int) = _
      unfold squintlaw13_same.l0
      rw [if_pos (by omega), if_pos (by omega), if_pos (by omega), if_pos hc]
    · refine ⟨b, hb.step fun k => ?_⟩
      show squintlaw13_same.l0 (k + 1) x y (n : Int) = _
      conv => lhs; unfold squintlaw13_same.l0
      rw [if_pos (by omega), if_pos (by omega), if_pos (by omega), if_neg hc, wrap_succ n (by omega)]
theorem same_total (x y : List S47) (hl : x.length ≤ 4611686018427387904) : ∃ b k, squintlaw13_same.f k x y = some b ∧ (x = y → b = true) := by
  by_cases hxy : x = y
  · subst hxy
    obtain ⟨k, hk⟩ := sameP_self x hl
    exact ⟨true, k, hk, fun _ => rfl⟩
  · by_cases he : x.length = y.length
    · obtain ⟨b, hb⟩ := same_total_loop x y hl he x.length 0 (by omega)
      obtain ⟨k, hk⟩ := hb.get
      refine ⟨b, k, ?_, fun h => absurd h hxy⟩
      unfold squintlaw13_same.f
      rw [if_pos (by omega)]
      exact hk
    · refine ⟨false, 0, ?_, fun h => absurd h hxy⟩
      unfold squintlaw13_same.f
      rw [if_neg (by omega)]
set_option maxRecDepth 100000 in
set_option maxHeartbeats 4000000 in
theorem rises_any (a b : S47) (w : World) (h : ltP a b) : Calls Try.prog 19 #[.agg #[.int .i64 a.f0, .int .i64 a.f1, .int .i64 a.f2, .int .i64 a.f3, .int .i64 a.f4], .agg #[.int .i64 b.f0, .int .i64 b.f1, .int .i64 b.f2, .int .i64 b.f3, .int .i64 b.f4]] w fun e w' => e = .returned (.bool true) ∧ Below w.heap.size w w' := by
  obtain ⟨a0, a1, a2, a3, a4⟩ := a
  obtain ⟨b0, b1, b2, b3, b4⟩ := b
  unfold ltP at h
  dsimp only at h ⊢
  have HB0 := Aside0.mk (below_alloc (below_alloc (below_alloc (below_alloc (Below.refl _ w) (.cells #[.int .i64 a0, .int .i64 a1, .int .i64 a2, .int .i64 a3, .int .i64 a4] 47)) (.cells #[.int .i64 b0, .int .i64 b1, .int .i64 b2, .int .i64 b3, .int .i64 b4] 47)) (.cells #[.int .i64 a0, .int .i64 a1, .int .i64 a2, .int .i64 a3] 60)) (.cells #[.int .i64 b0, .int .i64 b1, .int .i64 b2, .int .i64 b3] 60))
  go_enter Try.func19, Try.ntmps19
  go_upto_region 3 with (fail)
  obtain ⟨gx, hgx⟩ : ∃ z, z = w.heap.size + 1 + 1 := ⟨_, rfl⟩
  obtain ⟨gy, hgy⟩ : ∃ z, z = w.heap.size + 1 + 1 + 1 := ⟨_, rfl⟩
  rw [← hgx] at hgy ⊢
  rw [← hgy]
  have hs2 : ((w.alloc (.cells #[.int .i64 a0, .int .i64 a1, .int .i64 a2, .int .i64 a3, .int .i64 a4] 47)).alloc (.cells #[.int .i64 b0, .int .i64 b1, .int .i64 b2, .int .i64 b3, .int .i64 b4] 47)).heap.size = gx := by simp [hgx]
  have hx4 := blk_alloc (heap_alloc_new ((w.alloc (.cells #[.int .i64 a0, .int .i64 a1, .int .i64 a2, .int .i64 a3, .int .i64 a4] 47)).alloc (.cells #[.int .i64 b0, .int .i64 b1, .int .i64 b2, .int .i64 b3, .int .i64 b4] 47)) (.cells #[.int .i64 a0, .int .i64 a1, .int .i64 a2, .int .i64 a3] 60)) (.cells #[.int .i64 b0, .int .i64 b1, .int .i64 b2, .int .i64 b3] 60)
  rw [hs2] at hx4
  have hy4 := heap_alloc_new (((w.alloc (.cells #[.int .i64 a0, .int .i64 a1, .int .i64 a2, .int .i64 a3, .int .i64 a4] 47)).alloc (.cells #[.int .i64 b0, .int .i64 b1, .int .i64 b2, .int .i64 b3, .int .i64 b4] 47)).alloc (.cells #[.int .i64 a0, .int .i64 a1, .int .i64 a2, .int .i64 a3] 60)) (.cells #[.int .i64 b0, .int .i64 b1, .int .i64 b2, .int .i64 b3] 60)
  rw [show (((w.alloc (.cells #[.int .i64 a0, .int .i64 a1, .int .i64 a2, .int .i64 a3, .int .i64 a4] 47)).alloc (.cells #[.int .i64 b0, .int .i64 b1, .int .i64 b2, .int .i64 b3, .int .i64 b4] 47)).alloc (.cells #[.int .i64 a0, .int .i64 a1, .int .i64 a2, .int .i64 a3] 60)).heap.size = gy by simp [hgy, hgx]] at hy4
  have HX := Aside0.mk hx4
  have HY := Aside0.mk hy4
  clear hs2 hx4 hy4 hgx hgy
  generalize (((w.alloc (.cells #[.int .i64 a0, .int .i64 a1, .int .i64 a2, .int .i64 a3, .int .i64 a4] 47)).alloc (.cells #[.int .i64 b0, .int .i64 b1, .int .i64 b2, .int .i64 b3, .int .i64 b4] 47)).alloc (.cells #[.int .i64 a0, .int .i64 a1, .int .i64 a2, .int .i64 a3] 60)).alloc (.cells #[.int .i64 b0, .int .i64 b1, .int .i64 b2, .int .i64 b3] 60) = w4 at HB0 HX HY ⊢
  have H := Aside0.mk h
  clear h
  go_wp2_with (fail)
  go_loopw [7] (fun v7 wr => ∃ k : Nat, v7 = .int .i64 k ∧ k ≤ 3 ∧ Aside0 ((1 ≤ k → a0 = b0) ∧ (2 ≤ k → a1 = b1) ∧ (3 ≤ k → a2 = b2)) ∧ Aside0 (Below w4.heap.size w4 wr)) (fun v7 _ => 4 - (intOf v7).toNat)
  case atStart => exact ⟨0, rfl, by omega, ⟨by omega⟩, ⟨Below.refl _ _⟩⟩
  case round =>
    obtain ⟨k, rfl, hk, HE, HB⟩ := hrel
    obtain ⟨wo, rfl⟩ : ∃ wo : World, wo = wr := ⟨_, rfl⟩
    have bx := blk_below HX.out HB.out
    have bY := blk_below HY.out HB.out
    have HF := Aside0.mk (HB0.out.trans (HB.out.mono HB0.out.size))
    have hor : k = 0 ∨ k = 1 ∨ k = 2 ∨ k = 3 := by omega
    rcases hor with rfl | rfl | rfl | rfl
    · have x0 : wo.cell? ⟨gx, 0, none⟩ = some (.int .i64 a0) := (blk_cell bx 0).trans rfl
      have y0 : wo.cell? ⟨gy, 0, none⟩ = some (.int .i64 b0) := (blk_cell bY 0).trans rfl
      clear bx bY
      by_cases he : a0 = b0
      · have hne : (a0 != b0) = false := by simp [he]
        have HEQ := Aside0.mk he
        clear he
        go_upto_region 6 with (fail)
        go_region
        go_wp2_with (fail)
        go_roundw
        case rel => exact ⟨1, by go_num, by omega, ⟨by have := HE.out; have := HEQ.out; omega⟩, ⟨by repeat (first | exact HB.out | apply below_drew | apply pw_below_drewN)⟩⟩
        case measure => simp [intOf]
      · have hne : (a0 != b0) = true := by simp [he]
        have hlt : decide (a0 < b0) = true := decide_eq_true (by have := HE.out; have := H.out; omega)
        clear he
        go_upto_region 6 with (fail)
        go_region
        obtain ⟨wp, hwp⟩ : ∃ wp, wp = wo.drew := ⟨_, rfl⟩
        rw [← hwp]
        have x1 : wp.cell? ⟨gx, 0, none⟩ = some (.int .i64 a0) := by rw [hwp]; exact x0
        have y1 : wp.cell? ⟨gy, 0, none⟩ = some (.int .i64 b0) := by rw [hwp]; exact y0
        have HF2 : Aside0 (Below w.heap.size w wp) := ⟨by rw [hwp]; exact below_drew HF.out⟩
        clear hwp x0 y0 HF
        go_upto_region 7 with (fail)
        go_region
        go_wp2_with (fail)
        go_returns
        exact ⟨rfl, by repeat (first | exact HF2.out | apply below_drew | apply pw_below_drewN)⟩
    · have x0 : wo.cell? ⟨gx, 1, none⟩ = some (.int .i64 a1) := (blk_cell bx 1).trans rfl
      have y0 : wo.cell? ⟨gy, 1, none⟩ = some (.int .i64 b1) := (blk_cell bY 1).trans rfl
      clear bx bY
      by_cases he : a1 = b1
      · have hne : (a1 != b1) = false := by simp [he]
        have HEQ := Aside0.mk he
        clear he
        go_upto_region 6 with (fail)
        go_region
        go_wp2_with (fail)
        go_roundw
        case rel => exact ⟨2, by go_num, by omega, ⟨by have := HE.out; have := HEQ.out; omega⟩, ⟨by repeat (first | exact HB.out | apply below_drew | apply pw_below_drewN)⟩⟩
        case measure => simp [intOf]
      · have hne : (a1 != b1) = true := by simp [he]
        have hlt : decide (a1 < b1) = true := decide_eq_true (by have := HE.out; have := H.out; omega)
        clear he
        go_upto_region 6 with (fail)
        go_region
        obtain ⟨wp, hwp⟩ : ∃ wp, wp = wo.drew := ⟨_, rfl⟩
        rw [← hwp]
        have x1 : wp.cell? ⟨gx, 1, none⟩ = some (.int .i64 a1) := by rw [hwp]; exact x0
        have y1 : wp.cell? ⟨gy, 1, none⟩ = some (.int .i64 b1) := by rw [hwp]; exact y0
        have HF2 : Aside0 (Below w.heap.size w wp) := ⟨by rw [hwp]; exact below_drew HF.out⟩
        clear hwp x0 y0 HF
        go_upto_region 7 with (fail)
        go_region
        go_wp2_with (fail)
        go_returns
        exact ⟨rfl, by repeat (first | exact HF2.out | apply below_drew | apply pw_below_drewN)⟩
    · have x0 : wo.cell? ⟨gx, 2, none⟩ = some (.int .i64 a2) := (blk_cell bx 2).trans rfl
      have y0 : wo.cell? ⟨gy, 2, none⟩ = some (.int .i64 b2) := (blk_cell bY 2).trans rfl
      clear bx bY
      by_cases he : a2 = b2
      · have hne : (a2 != b2) = false := by simp [he]
        have HEQ := Aside0.mk he
        clear he
        go_upto_region 6 with (fail)
        go_region
        go_wp2_with (fail)
        go_roundw
        case rel => exact ⟨3, by go_num, by omega, ⟨by have := HE.out; have := HEQ.out; omega⟩, ⟨by repeat (first | exact HB.out | apply below_drew | apply pw_below_drewN)⟩⟩
        case measure => simp [intOf]
      · have hne : (a2 != b2) = true := by simp [he]
        have hlt : decide (a2 < b2) = true := decide_eq_true (by have := HE.out; have := H.out; omega)
        clear he
        go_upto_region 6 with (fail)
        go_region
        obtain ⟨wp, hwp⟩ : ∃ wp, wp = wo.drew := ⟨_, rfl⟩
        rw [← hwp]
        have x1 : wp.cell? ⟨gx, 2, none⟩ = some (.int .i64 a2) := by rw [hwp]; exact x0
        have y1 : wp.cell? ⟨gy, 2, none⟩ = some (.int .i64 b2) := by rw [hwp]; exact y0
        have HF2 : Aside0 (Below w.heap.size w wp) := ⟨by rw [hwp]; exact below_drew HF.out⟩
        clear hwp x0 y0 HF
        go_upto_region 7 with (fail)
        go_region
        go_wp2_with (fail)
        go_returns
        exact ⟨rfl, by repeat (first | exact HF2.out | apply below_drew | apply pw_below_drewN)⟩
    · have x0 : wo.cell? ⟨gx, 3, none⟩ = some (.int .i64 a3) := (blk_cell bx 3).trans rfl
      have y0 : wo.cell? ⟨gy, 3, none⟩ = some (.int .i64 b3) := (blk_cell bY 3).trans rfl
      clear bx bY
      by_cases he : a3 = b3
      · have hne : (a3 != b3) = false := by simp [he]
        have HEQ := Aside0.mk he
        clear he
        go_upto_region 6 with (fail)
        go_region
        exfalso
        have := HE.out
        have := H.out
        have := HEQ.out
        omega
      · have hne : (a3 != b3) = true := by simp [he]
        have hlt : decide (a3 < b3) = true := decide_eq_true (by have := HE.out; have := H.out; omega)
        clear he
        go_upto_region 6 with (fail)
        go_region
        obtain ⟨wp, hwp⟩ : ∃ wp, wp = wo.drew := ⟨_, rfl⟩
        rw [← hwp]
        have x1 : wp.cell? ⟨gx, 3, none⟩ = some (.int .i64 a3) := by rw [hwp]; exact x0
        have y1 : wp.cell? ⟨gy, 3, none⟩ = some (.int .i64 b3) := by rw [hwp]; exact y0
        have HF2 : Aside0 (Below w.heap.size w wp) := ⟨by rw [hwp]; exact below_drew HF.out⟩
        clear hwp x0 y0 HF
        go_upto_region 7 with (fail)
        go_region
        go_wp2_with (fail)
        go_returns
        exact ⟨rfl, by repeat (first | exact HF2.out | apply below_drew | apply pw_below_drewN)⟩
end Go.Proofs.Ytokbonceeglciaa.Bk
end
section
namespace Go.Proofs.Ytokbonceeglciaa.Bk
open Go.RowKit Go.Proofs.YtokbonceeglciaaW.PrintWords Go.Proofs.YtokbonceeglciaaW.PrintLast Go.Proofs.YtokbonceeglciaaW.PrintMore Go.Proofs.Ytokbonceeglciaa.Print Go.Proofs.Ytokbonceeglciaa.Given
set_option linter.unusedVariables false
set_option linter.unusedSimpArgs false
theorem arms_flip (l : List S38) : arms (l.map flipW) = arms l := by
  unfold arms
  rw [List.map_map]
  congr 1
  refine List.map_congr_left fun x _ => ?_
  exact List.length_map _
theorem put5 {u : World} {g : Nat} (h : u.heap[g]? = some (.cells #[.int .i64 0, .bool false, .int .i64 0, .int .i64 0, .slice none 0 0] 43 (0, 0))) (a b c d e : Value) : (((((u.setCell ⟨g, 0, none⟩ a).setCell ⟨g, 1, none⟩ b).setCell ⟨g, 2, none⟩ c).setCell ⟨g, 3, none⟩ d).setCell ⟨g, 4, none⟩ e).heap[g]? = some (.cells #[a, b, c, d, e] 43 (0, 0)) := by
  have h0 := blk_set h 0 a
  have h1 := blk_set h0 1 b
  have h2 := blk_set h1 2 c
  have h3 := blk_set h2 3 d
  have h4 := blk_set h3 4 e
  exact h4
theorem bel5 {w u : World} {B g : Nat} (h : Below B w u) (hg : B ≤ g) (a b c d e : Value) : Below B w (((((u.setCell ⟨g, 0, none⟩ a).setCell ⟨g, 1, none⟩ b).setCell ⟨g, 2, none⟩ c).setCell ⟨g, 3, none⟩ d).setCell ⟨g, 4, none⟩ e) :=
  below_setG (below_setG (below_setG (below_setG (below_setG h hg _ _) hg _ _) hg _ _) hg _ _) hg _ _
theorem cells47 {W0 : World} {A : Option Addr} {xs : List S47} (h : Kd.C k47 W0 A xs.length xs) (q : Nat) (t : S47) (ht : xs[q]? = some t) :
    ∃ ad, A = some ad ∧ ∀ W, Below W0.heap.size W0 W → W.cell? (ad.add (q * 5)) = some (.int .i64 t.f0) ∧ W.cell? ⟨(ad.add (q * 5)).block, (ad.add (q * 5)).off + 1, none⟩ = some (.int .i64 t.f1) ∧ W.cell? ⟨(ad.add (q * 5)).block, (ad.add (q * 5)).off + 2, none⟩ = some (.int .i64 t.f2) ∧ W.cell? ⟨(ad.add (q * 5)).block, (ad.add (q * 5)).off + 3, none⟩ = some (.int .i64 t.f3) ∧ W.cell? ⟨(ad.add (q * 5)).block, (ad.add (q * 5)).off + 4, none⟩ = some (.int .i64 t.f4) := by
  obtain ⟨hl, _⟩ := List.getElem?_eq_some_iff.1 ht
  obtain ⟨ad, e, x0, x1, x2, x3, x4⟩ := at_T47 h (q : Int) (by omega) (by omega)
  have hel : rd_T47 xs q = t := by
    unfold rd_T47
    rw [Int.toNat_natCast, List.getD_eq_getElem?_getD, ht]
    rfl
  rw [hel, Int.toNat_natCast] at x0 x1 x2 x3 x4
  exact ⟨ad, e, fun W hb => ⟨pw_cell_below hb x0, pw_cell_below hb x1, pw_cell_below hb x2, pw_cell_below hb x3, pw_cell_below hb x4⟩⟩
set_option maxRecDepth 100000 in
set_option maxHeartbeats 8000000 in
theorem laws_far (A : Option Addr) (c : Nat) (l : List S38) (who : Int) (w : World) (hr : Kd.C k38 w A l.length l) (hc : l.length ≤ c) (k1 : Nat) (h1 : squintlaw13_beyond.f k1 l = some true) :
    Calls Try.prog 4 #[.slice A l.length c, .int .i64 who] w fun e w' => e = .returned (.bool true) ∧ Below w.heap.size w w' := by
  have HR := Aside0.mk hr
  have H1 := Aside0.mk h1
  clear hr h1
  have hsh : squintlaw13_shown.f = some true := by kernel_rfl
  have HSH := Aside0.mk hsh
  clear hsh
  go_enter Try.func4, Try.ntmps4
  go_wp2_with (first
    | (go_at_call 6; refine (squintlaw13_shown.calls true w HSH.out).mono ?_; rintro e w1 ⟨rfl, hb⟩; have B1 := Aside0.mk hb; clear hb)
    | (go_at_call 7; refine (squintlaw13_beyond.calls k1 A c l _ _ (Kd.C_below HR.out B1.out) hc H1.out).mono ?_; rintro e w2 ⟨rfl, hd⟩; have B2 := Aside0.mk (below_then B1.out B1.out.size hd.below); clear hd))
  go_returns
  exact ⟨rfl, B2.out⟩
def l12T : Bool × List (List Nat × List Nat) := (true, [([], []), ([0], [0]), ([1], [1]), ([2], [2]), ([2], [2]), ([4, 2], [2, 4]), ([3, 5, 2], [2, 3, 5]), ([6, 2], [2, 6]), ([2], [2]), ([2], [2]), ([8, 9, 2], [2, 8, 9]), ([10, 2], [2, 10]), ([7, 11, 2, 2], [2, 7, 11]), ([12, 2], [2, 12]), ([2, 13], [2, 13])])
def l12B : List Nat := [0, 1, 3, 7, 7, 23, 63, 127, 7, 7, 775, 1799, 4095, 8191, 16383]
theorem l12tab : rtab .any (opsOf Try.f4 12) = l12T := by kernel_rfl
theorem l12bits : waitsOk l12T.2 l12B = true := by kernel_rfl
def l40T : Bool × List (List Nat × List Nat) := (true, [([], []), ([], []), ([], []), ([1, 2], [1, 2]), ([0, 3], [0, 3]), ([], []), ([], []), ([6], [6]), ([5, 7], [5, 7]), ([4, 8, 4], [4, 8]), ([9, 9, 0, 1, 2, 3, 4, 5, 6, 7, 8, 9], [9])])
def l40B : List Nat := [0, 0, 0, 6, 15, 0, 0, 64, 224, 511, 1023]
theorem l40tab : rtab .any (opsOf Try.f4 40) = l40T := by kernel_rfl
theorem l40bits : waitsOk l40T.2 l40B = true := by kernel_rfl
def l41T : Bool × List (List Nat × List Nat) := (true, [([], []), ([0], [0]), ([], []), ([], []), ([], []), ([3, 4], [3, 4]), ([5], [5]), ([6], [6]), ([2, 7, 1], [2, 7]), ([1, 8, 8], [1, 8]), ([9, 9, 0, 1, 2, 3, 4, 5, 6, 7, 8, 9], [9])])
def l41B : List Nat := [0, 1, 0, 0, 0, 24, 56, 120, 255, 511, 1023]
theorem l41tab : rtab .any (opsOf Try.f4 41) = l41T := by kernel_rfl
theorem l41bits : waitsOk l41T.2 l41B = true := by kernel_rfl
end Go.Proofs.Ytokbonceeglciaa.Bk
end
section
namespace Go.Proofs.Ytokbonceeglciaa.Bk
open Go.RowKit Go.Proofs.YtokbonceeglciaaW.PrintWords Go.Proofs.YtokbonceeglciaaW.PrintLast Go.Proofs.YtokbonceeglciaaW.PrintMore Go.Proofs.Ytokbonceeglciaa.Print Go.Proofs.Ytokbonceeglciaa.Given
set_option linter.unusedVariables false
set_option linter.unusedSimpArgs false
set_option maxRecDepth 100000 in
set_option maxHeartbeats 16000000 in
noncomputable def cutA : PSigma fun P0 : Prop => PSigma fun P1 : Prop => Aside0 P0 → Aside0 P1 → ∀ (A : Option Addr) (c : Nat) (l : List S38) (who : Int) (w : World) (hr : Kd.C k38 w A l.length l) (hc : l.length ≤ c) (k1 : Nat) (h1 : squintlaw13_beyond.f k1 l = some false) (hm : l.length + arms l ≤ 4000) (hwho : -9223372036854775808 ≤ who ∧ who ≤ 9223372036854775807), Calls Try.prog 4 #[.slice A l.length c, .int .i64 who] w fun e w' => e = .returned (.bool true) ∧ Below w.heap.size w w' := by
  apply PSigma.mk
  ·
    apply PSigma.mk
    ·
      intro hCut0 hCut1
      intro A c l who w hr hc k1 h1 hm hwho
      have hsh : squintlaw13_shown.f = some true := by kernel_rfl
      obtain ⟨PA, hPA⟩ : ∃ P, P = pairsOf l := ⟨_, rfl⟩
      have HPO : Aside0 (∀ x ∈ PA, PairOf l x ∧ l.Pairwise (fun x y => x.f0 < y.f0)) := ⟨fun x hx => by
        rw [hPA] at hx
        by_cases hr : rightOf l = true
        · exact ⟨(pairs_mem hr x).1 hx, (right_says hr).2⟩
        · unfold pairsOf at hx
          rw [if_neg hr] at hx
          cases hx⟩
      have HSO : Aside0 (PA.Pairwise ltP) := ⟨by
        rw [hPA]
        by_cases hr : rightOf l = true
        · exact pairs_sorted hr
        · unfold pairsOf
          rw [if_neg hr]
          exact List.Pairwise.nil⟩
      have hpl : PA.length ≤ 16000000 := by
        rw [hPA]
        exact Nat.le_trans (pairsOf_len _) (Nat.mul_le_mul (show arms l ≤ 4000 by omega) (show arms l ≤ 4000 by omega))
      have HP : Aside0 (post_Pairs.f l = some PA) := ⟨by unfold post_Pairs.f; rw [if_pos (by omega), hPA]⟩
      have HPA := Aside0.mk hPA
      have HR := Aside0.mk hr
      have HC := Aside0.mk hc
      have H1 := Aside0.mk h1
      have HM := Aside0.mk hm
      have HWHO := Aside0.mk hwho
      have HSH := Aside0.mk hsh
      have hl4 : l.length ≤ 4000 := by omega
      clear hr h1 hm hwho hsh hc hPA
      go_enter Try.func4, Try.ntmps4
      go_upto_region 5 with (first
        | (go_at_call 6; refine (squintlaw13_shown.calls true w HSH.out).mono ?_; rintro e w1 ⟨rfl, hb⟩; have B1 := Aside0.mk hb; clear hb)
        | (go_at_call 7; refine (squintlaw13_beyond.calls k1 A c l _ _ (Kd.C_below HR.out B1.out) HC.out H1.out).mono ?_; rintro e w2 ⟨rfl, hd⟩; have B2 := Aside0.mk (below_then B1.out B1.out.size hd.below); clear hd)
        | (go_at_call 10; refine (post_Pairs.calls A c l PA _ (Kd.C_below HR.out B2.out) HC.out HP.out).mono ?_; rintro e w3 ⟨va, rfl, hR, hb⟩; obtain ⟨Aa, ca, rfl⟩ := Kd.R_slice hR; have B3 := Aside0.mk (below_then B2.out B2.out.size hb); have RA := Aside0.mk hR; clear hR hb))
      have CA := Aside0.mk (Kd.R_reads' RA.out)
      clear B1 B2 H1 HSH HP
      go_wp2_with (fail)
      go_loopw [7, 8, 9] (fun v7 _ _ wr => ∃ i : Nat, v7 = .int .i64 i ∧ i ≤ PA.length ∧ Aside0 (Below w3.heap.size w3 wr)) (fun v7 _ _ _ => PA.length - (intOf v7).toNat)
      case atStart => exact ⟨0, rfl, by omega, ⟨Below.refl _ _⟩⟩
      case round =>
        obtain ⟨i, rfl, hi, HBR⟩ := hrel
        obtain ⟨wo, rfl⟩ : ∃ wo : World, wo = wr := ⟨_, rfl⟩
        by_cases hlt : i < PA.length
        · rename_i zcutA0_ zcutA1_ zcutA2_
          revert A c l who w k1 PA HPO HSO hpl HPA HR HC HM HWHO hl4 zcutA0_ w1 w2 w3 Aa ca B3 RA zcutA1_ zcutA2_ CA u4 u8 u9 u26 u27 u28 u29 u30 u31 u32 u33 u34 u35 u36 u37 u38 u39 u40 u41 u42 u43 u44 u45 u46 u47 u48 u49 u50 u51 u52 u53 u54 u55 u56 u57 u58 u59 u60 u61 u62 u63 u64 u65 u66 u67 u68 u69 u70 u71 u72 u73 u74 u75 u76 u77 u78 u79 u80 u81 u82 u83 u84 u85 u86 u87 u88 u89 u90 u91 u92 u93 u94 u95 u96 u97 u98 u99 u100 u101 u102 u103 u104 u105 u106 u107 u108 u109 u110 u111 u112 u113 u114 u115 i hi wo HBR hlt
          exact hCut0.out
        · rename_i zcutA0_ zcutA1_ zcutA2_
          revert A c l who w k1 PA HPO HSO hpl HPA HR HC HM HWHO hl4 zcutA0_ w1 w2 w3 Aa ca B3 RA zcutA1_ zcutA2_ CA u4 u8 u9 u26 u27 u28 u29 u30 u31 u32 u33 u34 u35 u36 u37 u38 u39 u40 u41 u42 u43 u44 u45 u46 u47 u48 u49 u50 u51 u52 u53 u54 u55 u56 u57 u58 u59 u60 u61 u62 u63 u64 u65 u66 u67 u68 u69 u70 u71 u72 u73 u74 u75 u76 u77 u78 u79 u80 u81 u82 u83 u84 u85 u86 u87 u88 u89 u90 u91 u92 u93 u94 u95 u96 u97 u98 u99 u100 u101 u102 u103 u104 u105 u106 u107 u108 u109 u110 u111 u112 u113 u114 u115 i hi wo HBR hlt
          exact hCut1.out
end Go.Proofs.Ytokbonceeglciaa.Bk
end
section
namespace Go.Proofs.Ytokbonceeglciaa.Bk
open Go.RowKit Go.Proofs.YtokbonceeglciaaW.PrintWords Go.Proofs.YtokbonceeglciaaW.PrintLast Go.Proofs.YtokbonceeglciaaW.PrintMore Go.Proofs.Ytokbonceeglciaa.Print Go.Proofs.Ytokbonceeglciaa.Given
set_option linter.unusedVariables false
set_option linter.unusedSimpArgs false
set_option maxRecDepth 100000 in
set_option maxHeartbeats 16000000 in
noncomputable def cutB : PSigma fun P0 : Prop => Aside0 P0 → cutA.1 := by
  apply PSigma.mk
  ·
    intro hCut0
    intro A c l who w k1 PA HPO HSO hpl HPA HR HC HM HWHO hl4 zcutA0_ w1 w2 w3 Aa ca B3 RA zcutA1_ zcutA2_ CA u4 u8 u9 u26 u27 u28 u29 u30 u31 u32 u33 u34 u35 u36 u37 u38 u39 u40 u41 u42 u43 u44 u45 u46 u47 u48 u49 u50 u51 u52 u53 u54 u55 u56 u57 u58 u59 u60 u61 u62 u63 u64 u65 u66 u67 u68 u69 u70 u71 u72 u73 u74 u75 u76 u77 u78 u79 u80 u81 u82 u83 u84 u85 u86 u87 u88 u89 u90 u91 u92 u93 u94 u95 u96 u97 u98 u99 u100 u101 u102 u103 u104 u105 u106 u107 u108 u109 u110 u111 u112 u113 u114 u115 i hi wo HBR hlt
    obtain ⟨x, hx⟩ : ∃ x, PA[i]? = some x := ⟨_, List.getElem?_eq_getElem hlt⟩
    obtain ⟨ad, rfl, hcl⟩ := cells47 CA.out.2.2 i x hx
    obtain ⟨⟨p, q, n, m, a, b, hp, hq, ha, hb, g1, g2, g3, g4, g5, rfl⟩, hs⟩ := HPO.out x (List.mem_of_getElem? hx)
    have HA1 : Aside0 (∀ W, Below w.heap.size w W → Calls Try.prog 18 #[.slice A l.length c, .int .i64 p.f0, .int .i64 (n : Int)] W fun e w' => ∃ (v0 v1 : Int) (A4 : Option Addr) (n4 c4 : Nat), e = .returned (.agg #[.int .i64 a.f0, .bool true, .int .i64 v0, .int .i64 v1, .slice A4 n4 c4]) ∧ Below W.heap.size W w') := ⟨fun W hW => by
      have h := arm_any A c l p n a W (Kd.C_below HR.out hW) HC.out (by omega) hs hp ha
      rwa [g1] at h⟩
    have HA2 : Aside0 (∀ W, Below w.heap.size w W → Calls Try.prog 18 #[.slice A l.length c, .int .i64 q.f0, .int .i64 (m : Int)] W fun e w' => ∃ (v0 v1 : Int) (A4 : Option Addr) (n4 c4 : Nat), e = .returned (.agg #[.int .i64 a.f0, .bool false, .int .i64 v0, .int .i64 v1, .slice A4 n4 c4]) ∧ Below W.heap.size W w') := ⟨fun W hW => by
      have h := arm_any A c l q m b W (Kd.C_below HR.out hW) HC.out (by omega) hs hq hb
      rwa [g2, g4] at h⟩
    have HCL := Aside0.mk hcl
    have HX := Aside0.mk hx
    dsimp only at HCL
    obtain ⟨pid, hpid⟩ : ∃ z, z = p.f0 := ⟨_, rfl⟩
    obtain ⟨qid, hqid⟩ : ∃ z, z = q.f0 := ⟨_, rfl⟩
    obtain ⟨ch, hch⟩ : ∃ z, z = a.f0 := ⟨_, rfl⟩
    rw [← hpid, ← hch] at HA1
    rw [← hqid, ← hch] at HA2
    rw [← hpid, ← hqid, ← hch] at HCL HX
    rw [← hpid, ← hqid] at g5
    rw [← hch] at g3
    obtain ⟨y0, y1, y2, y3, y4⟩ := HCL.out _ HBR.out
    have HBW := Aside0.mk (B3.out.trans (HBR.out.mono B3.out.size))
    have hpq : (pid == qid) = false := beq_eq_false_iff_ne.2 (fun e => g5 e.symm)
    have hlt1 : decide (ch < 1) = false := decide_eq_false (by omega)
    have HPQ := Aside0.mk hpq
    have HL1 := Aside0.mk hlt1
    clear hcl hx hpid hqid hch g1 g2 g3 g4 g5 hp hq ha hb hs hpq hlt1
    have nz0 : ∀ W : World, (W.alloc (.cells #[.int .i64 0, .bool false, .int .i64 0, .int .i64 0, .slice none 0 0] 43)).cell? ⟨W.heap.size, 0, none⟩ = some (.int .i64 0) := fun W => (blk_cell (heap_alloc_new W _) 0).trans rfl
    have nf0 : ∀ W : World, (W.alloc (.cells #[.int .i64 0, .bool false, .int .i64 0, .int .i64 0, .slice none 0 0] 43)).frozen? ⟨W.heap.size, 0, none⟩ = false := fun W => blk_frozen (heap_alloc_new W _) 0
    have nz1 : ∀ W : World, (W.alloc (.cells #[.int .i64 0, .bool false, .int .i64 0, .int .i64 0, .slice none 0 0] 43)).cell? ⟨W.heap.size, 1, none⟩ = some (.bool false) := fun W => (blk_cell (heap_alloc_new W _) 1).trans rfl
    have nf1 : ∀ W : World, (W.alloc (.cells #[.int .i64 0, .bool false, .int .i64 0, .int .i64 0, .slice none 0 0] 43)).frozen? ⟨W.heap.size, 1, none⟩ = false := fun W => blk_frozen (heap_alloc_new W _) 1
    have nz2 : ∀ W : World, (W.alloc (.cells #[.int .i64 0, .bool false, .int .i64 0, .int .i64 0, .slice none 0 0] 43)).cell? ⟨W.heap.size, 2, none⟩ = some (.int .i64 0) := fun W => (blk_cell (heap_alloc_new W _) 2).trans rfl
    have nf2 : ∀ W : World, (W.alloc (.cells #[.int .i64 0, .bool false, .int .i64 0, .int .i64 0, .slice none 0 0] 43)).frozen? ⟨W.heap.size, 2, none⟩ = false := fun W => blk_frozen (heap_alloc_new W _) 2
    have nz3 : ∀ W : World, (W.alloc (.cells #[.int .i64 0, .bool false, .int .i64 0, .int .i64 0, .slice none 0 0] 43)).cell? ⟨W.heap.size, 3, none⟩ = some (.int .i64 0) := fun W => (blk_cell (heap_alloc_new W _) 3).trans rfl
    have nf3 : ∀ W : World, (W.alloc (.cells #[.int .i64 0, .bool false, .int .i64 0, .int .i64 0, .slice none 0 0] 43)).frozen? ⟨W.heap.size, 3, none⟩ = false := fun W => blk_frozen (heap_alloc_new W _) 3
    have nz4 : ∀ W : World, (W.alloc (.cells #[.int .i64 0, .bool false, .int .i64 0, .int .i64 0, .slice none 0 0] 43)).cell? ⟨W.heap.size, 4, none⟩ = some (.slice none 0 0) := fun W => (blk_cell (heap_alloc_new W _) 4).trans rfl
    have nf4 : ∀ W : World, (W.alloc (.cells #[.int .i64 0, .bool false, .int .i64 0, .int .i64 0, .slice none 0 0] 43)).frozen? ⟨W.heap.size, 4, none⟩ = false := fun W => blk_frozen (heap_alloc_new W _) 4
    have ya0 : ∀ o : Obj, (wo.alloc o).drew.cell? (ad.add (i * 5)) = some (.int .i64 pid) := fun o => pw_cell_below (below_drew (below_alloc (Below.refl _ wo) o)) y0
    have ya1 : ∀ o : Obj, (wo.alloc o).drew.cell? ⟨(ad.add (i * 5)).block, (ad.add (i * 5)).off + 1, none⟩ = some (.int .i64 (n : Int)) := fun o => pw_cell_below (below_drew (below_alloc (Below.refl _ wo) o)) y1
    have yb0 : ∀ o : Obj, (wo.alloc o).cell? (ad.add (i * 5)) = some (.int .i64 pid) := fun o => pw_cell_below (below_alloc (Below.refl _ wo) o) y0
    have yb1 : ∀ o : Obj, (wo.alloc o).cell? ⟨(ad.add (i * 5)).block, (ad.add (i * 5)).off + 1, none⟩ = some (.int .i64 (n : Int)) := fun o => pw_cell_below (below_alloc (Below.refl _ wo) o) y1
    go_upto_region 8 with (fail)
    go_cut [8] (fun v8 wc => ∃ (g : Nat) (v0 v1 : Int) (A4 : Option Addr) (n4 c4 : Nat), v8 = .pointer (some ⟨g, 0, none⟩) ∧ Aside0 (wc.heap[g]? = some (.cells #[.int .i64 ch, .bool true, .int .i64 v0, .int .i64 v1, .slice A4 n4 c4] 43 (0, 0))) ∧ Aside0 (Below w3.heap.size w3 wc))
    case first =>
      rename_i JJ KK hJ hM
      go_region_with (go_at_call 18; go_loud (refine (HA1.out _ (by repeat (first | exact HBW.out | apply below_drew | apply pw_below_drewN | apply below_alloc))).mono ?_); rintro e u ⟨v0, v1, A4, n4, c4, rfl, hb⟩; have BU : Aside0 (Below w3.heap.size w3 u) := ⟨below_then (by repeat (first | exact HBR.out | apply below_drew | apply pw_below_drewN | apply below_alloc)) (Below.size (by repeat (first | exact HBR.out | apply below_drew | apply pw_below_drewN | apply below_alloc))) hb⟩; try (have qb : u.heap[wo.heap.size]? = some (.cells #[.int .i64 0, .bool false, .int .i64 0, .int .i64 0, .slice none 0 0] 43 (0, 0)) := blk_below (blk_drew (heap_alloc_new wo _)) hb; have q0 : u.cell? ⟨wo.heap.size, 0, none⟩ = some (.int .i64 0) := (blk_cell qb 0).trans rfl; have f0 : u.frozen? ⟨wo.heap.size, 0, none⟩ = false := blk_frozen qb 0; have q1 : u.cell? ⟨wo.heap.size, 1, none⟩ = some (.bool false) := (blk_cell qb 1).trans rfl; have f1 : u.frozen? ⟨wo.heap.size, 1, none⟩ = false := blk_frozen qb 1; have q2 : u.cell? ⟨wo.heap.size, 2, none⟩ = some (.int .i64 0) := (blk_cell qb 2).trans rfl; have f2 : u.frozen? ⟨wo.heap.size, 2, none⟩ = false := blk_frozen qb 2; have q3 : u.cell? ⟨wo.heap.size, 3, none⟩ = some (.int .i64 0) := (blk_cell qb 3).trans rfl; have f3 : u.frozen? ⟨wo.heap.size, 3, none⟩ = false := blk_frozen qb 3; have q4 : u.cell? ⟨wo.heap.size, 4, none⟩ = some (.slice none 0 0) := (blk_cell qb 4).trans rfl; have f4 : u.frozen? ⟨wo.heap.size, 4, none⟩ = false := blk_frozen qb 4; have QB := Aside0.mk qb; clear qb); clear hb)
      all_goals clear ya0 ya1 yb0 yb1 y0 y1 y2 y3 y4 nz0 nz1 nz2 nz3 nz4 nf0 nf1 nf2 nf3 nf4
      all_goals (try clear q0 q1 q2 q3 q4 f0 f1 f2 f3 f4)
      all_goals refine hM _ _ ?_
      all_goals go_meet
      all_goals
        first
          | (have hq := QB; exact ⟨wo.heap.size, v0, v1, A4, n4, c4, rfl, ⟨put5 QB.out _ _ _ _ _⟩, ⟨bel5 BU.out HBR.out.size _ _ _ _ _⟩⟩)
          | exact ⟨u.heap.size, v0, v1, A4, n4, c4, rfl, ⟨heap_alloc_new u _⟩, ⟨below_alloc BU.out _⟩⟩
    case rest =>
      rename_i zcutB0_ zcutB1_ zcutB2_ zcutB3_ zcutB4_ zcutB5_ zcutB6_ zcutB7_ zcutB8_ zcutB9_ zcutB10_ zcutB11_ zcutB12_ zcutB13_ zcutB14_ zcutB15_ zcutB16_ zcutB17_ zcutB18_ zcutB19_ zcutB20_ zcutB21_ zcutB22_ zcutB23_ zcutB24_ zcutB25_ zcutB26_ zcutB27_ zcutB28_ zcutB29_ zcutB30_ zcutB31_ zcutB32_ zcutB33_ zcutB34_ zcutB35_ zcutB36_ zcutB37_ zcutB38_ zcutB39_ zcutB40_ zcutB41_ zcutB42_ zcutB43_ zcutB44_ zcutB45_ zcutB46_ zcutB47_ zcutB48_ zcutB49_ zcutB50_ zcutB51_ zcutB52_ zcutB53_ zcutB54_ zcutB55_ zcutB56_ zcutB57_ zcutB58_ zcutB59_ zcutB60_ zcutB61_ zcutB62_ zcutB63_ zcutB64_ zcutB65_ zcutB66_ zcutB67_ zcutB68_ zcutB69_ zcutB70_ zcutB71_ zcutB72_ zcutB73_ zcutB74_ zcutB75_ zcutB76_ zcutB77_ zcutB78_ zcutB79_ zcutB80_ zcutB81_ zcutB82_ zcutB83_ zcutB84_ zcutB85_ zcutB86_ zcutB87_ zcutB88_ zcutB89_ zcutB90_ zcutB91_ zcutB92_ zcutB93_ zcutB94_ zcutB95_
      revert A c l who w k1 PA HPO HSO hpl HPA HR HC HM HWHO hl4 zcutA0_ w1 w2 w3 ca B3 zcutA1_ zcutA2_ u4 zcutB0_ u9 zcutB1_ zcutB2_ zcutB3_ zcutB4_ zcutB5_ zcutB6_ zcutB7_ zcutB8_ zcutB9_ zcutB10_ zcutB11_ zcutB12_ zcutB13_ zcutB14_ zcutB15_ zcutB16_ zcutB17_ zcutB18_ zcutB19_ zcutB20_ zcutB21_ zcutB22_ zcutB23_ zcutB24_ zcutB25_ zcutB26_ zcutB27_ zcutB28_ zcutB29_ zcutB30_ zcutB31_ zcutB32_ zcutB33_ zcutB34_ zcutB35_ zcutB36_ zcutB37_ zcutB38_ zcutB39_ zcutB40_ zcutB41_ zcutB42_ zcutB43_ zcutB44_ zcutB45_ zcutB46_ zcutB47_ zcutB48_ zcutB49_ zcutB50_ zcutB51_ zcutB52_ zcutB53_ zcutB54_ zcutB55_ zcutB56_ zcutB57_ zcutB58_ zcutB59_ zcutB60_ zcutB61_ zcutB62_ zcutB63_ zcutB64_ zcutB65_ zcutB66_ zcutB67_ zcutB68_ zcutB69_ zcutB70_ zcutB71_ zcutB72_ zcutB73_ zcutB74_ zcutB75_ zcutB76_ zcutB77_ zcutB78_ zcutB79_ zcutB80_ zcutB81_ zcutB82_ zcutB83_ zcutB84_ zcutB85_ zcutB86_ zcutB87_ zcutB88_ zcutB89_ zcutB90_ i hi wo HBR hlt ad RA CA p q n m a b pid qid ch HX HCL HA2 HA1 y0 y1 y2 y3 y4 HBW HPQ HL1 nz0 nf0 nz1 nf1 nz2 nf2 nz3 nf3 nz4 nf4 ya0 ya1 yb0 yb1 zcutB91_ zcutB92_ zcutB93_ zcutB94_ zcutB95_ wc u8 u26 u27 u28 u29 u30 u31 u32 u33 u34 u35 u36 u37 u38 u39 u40 u41 u42 u43 u44 u45 u46 u47 u48 u49 u50 u51 u52 u53 u54 u55 u56 u57 u58 u59 u60 u61 u62 u63 u64 u65 u66 u67 u68 u69 u70 u71 u72 u73 u74 u75 u76 u77 u78 u79 u80 u81 u82 u83 u84 u85 u86 u87 u88 u89 u90 u91 u92 u93 u94 u95 u96 u97 u98 u99 u100 u101 u102 u103 u104 u105 u106 u107 u108 u109 u110 u111 u112 u113 u114 u115 hcut
      exact hCut0.out
end Go.Proofs.Ytokbonceeglciaa.Bk
end
section
namespace Go.Proofs.Ytokbonceeglciaa.Bk
open Go.RowKit Go.Proofs.YtokbonceeglciaaW.PrintWords Go.Proofs.YtokbonceeglciaaW.PrintLast Go.Proofs.YtokbonceeglciaaW.PrintMore Go.Proofs.Ytokbonceeglciaa.Print Go.Proofs.Ytokbonceeglciaa.Given
set_option linter.unusedVariables false
set_option linter.unusedSimpArgs false
set_option maxRecDepth 100000 in
set_option maxHeartbeats 16000000 in
noncomputable def cutC : PSigma fun P0 : Prop => Aside0 P0 → cutB.1 := by
  apply PSigma.mk
  ·
    intro hCut0
    intro A c l who w k1 PA HPO HSO hpl HPA HR HC HM HWHO hl4 zcutA0_ w1 w2 w3 ca B3 zcutA1_ zcutA2_ u4 zcutB0_ u9 zcutB1_ zcutB2_ zcutB3_ zcutB4_ zcutB5_ zcutB6_ zcutB7_ zcutB8_ zcutB9_ zcutB10_ zcutB11_ zcutB12_ zcutB13_ zcutB14_ zcutB15_ zcutB16_ zcutB17_ zcutB18_ zcutB19_ zcutB20_ zcutB21_ zcutB22_ zcutB23_ zcutB24_ zcutB25_ zcutB26_ zcutB27_ zcutB28_ zcutB29_ zcutB30_ zcutB31_ zcutB32_ zcutB33_ zcutB34_ zcutB35_ zcutB36_ zcutB37_ zcutB38_ zcutB39_ zcutB40_ zcutB41_ zcutB42_ zcutB43_ zcutB44_ zcutB45_ zcutB46_ zcutB47_ zcutB48_ zcutB49_ zcutB50_ zcutB51_ zcutB52_ zcutB53_ zcutB54_ zcutB55_ zcutB56_ zcutB57_ zcutB58_ zcutB59_ zcutB60_ zcutB61_ zcutB62_ zcutB63_ zcutB64_ zcutB65_ zcutB66_ zcutB67_ zcutB68_ zcutB69_ zcutB70_ zcutB71_ zcutB72_ zcutB73_ zcutB74_ zcutB75_ zcutB76_ zcutB77_ zcutB78_ zcutB79_ zcutB80_ zcutB81_ zcutB82_ zcutB83_ zcutB84_ zcutB85_ zcutB86_ zcutB87_ zcutB88_ zcutB89_ zcutB90_ i hi wo HBR hlt ad RA CA p q n m a b pid qid ch HX HCL HA2 HA1 y0 y1 y2 y3 y4 HBW HPQ HL1 nz0 nf0 nz1 nf1 nz2 nf2 nz3 nf3 nz4 nf4 ya0 ya1 yb0 yb1 zcutB91_ zcutB92_ zcutB93_ zcutB94_ zcutB95_ wc u8 u26 u27 u28 u29 u30 u31 u32 u33 u34 u35 u36 u37 u38 u39 u40 u41 u42 u43 u44 u45 u46 u47 u48 u49 u50 u51 u52 u53 u54 u55 u56 u57 u58 u59 u60 u61 u62 u63 u64 u65 u66 u67 u68 u69 u70 u71 u72 u73 u74 u75 u76 u77 u78 u79 u80 u81 u82 u83 u84 u85 u86 u87 u88 u89 u90 u91 u92 u93 u94 u95 u96 u97 u98 u99 u100 u101 u102 u103 u104 u105 u106 u107 u108 u109 u110 u111 u112 u113 u114 u115 hcut
    clear HA1 ya0 ya1 yb0 yb1 y0 y1 y2 y3 y4
    obtain ⟨gp, p0, p1, pA, pn, pc, rfl, GP, HBC⟩ := hcut
    obtain ⟨w8, rfl⟩ : ∃ z : World, z = wc := ⟨_, rfl⟩
    obtain ⟨y0, y1, y2, y3, y4⟩ := HCL.out _ HBC.out
    have HBWC := Aside0.mk (B3.out.trans (HBC.out.mono B3.out.size))
    have HBR9 := Aside0.mk (Below.refl w8.heap.size w8)
    have ya0 : ∀ o : Obj, (w8.alloc o).drew.cell? ⟨(ad.add (i * 5)).block, (ad.add (i * 5)).off + 2, none⟩ = some (.int .i64 qid) := fun o => pw_cell_below (below_drew (below_alloc (Below.refl _ w8) o)) y2
    have ya1 : ∀ o : Obj, (w8.alloc o).drew.cell? ⟨(ad.add (i * 5)).block, (ad.add (i * 5)).off + 3, none⟩ = some (.int .i64 (m : Int)) := fun o => pw_cell_below (below_drew (below_alloc (Below.refl _ w8) o)) y3
    have yb0 : ∀ o : Obj, (w8.alloc o).cell? ⟨(ad.add (i * 5)).block, (ad.add (i * 5)).off + 2, none⟩ = some (.int .i64 qid) := fun o => pw_cell_below (below_alloc (Below.refl _ w8) o) y2
    have yb1 : ∀ o : Obj, (w8.alloc o).cell? ⟨(ad.add (i * 5)).block, (ad.add (i * 5)).off + 3, none⟩ = some (.int .i64 (m : Int)) := fun o => pw_cell_below (below_alloc (Below.refl _ w8) o) y3
    have nz0 : ∀ W : World, (W.alloc (.cells #[.int .i64 0, .bool false, .int .i64 0, .int .i64 0, .slice none 0 0] 43)).cell? ⟨W.heap.size, 0, none⟩ = some (.int .i64 0) := fun W => (blk_cell (heap_alloc_new W _) 0).trans rfl
    have nf0 : ∀ W : World, (W.alloc (.cells #[.int .i64 0, .bool false, .int .i64 0, .int .i64 0, .slice none 0 0] 43)).frozen? ⟨W.heap.size, 0, none⟩ = false := fun W => blk_frozen (heap_alloc_new W _) 0
    have nz1 : ∀ W : World, (W.alloc (.cells #[.int .i64 0, .bool false, .int .i64 0, .int .i64 0, .slice none 0 0] 43)).cell? ⟨W.heap.size, 1, none⟩ = some (.bool false) := fun W => (blk_cell (heap_alloc_new W _) 1).trans rfl
    have nf1 : ∀ W : World, (W.alloc (.cells #[.int .i64 0, .bool false, .int .i64 0, .int .i64 0, .slice none 0 0] 43)).frozen? ⟨W.heap.size, 1, none⟩ = false := fun W => blk_frozen (heap_alloc_new W _) 1
    have nz2 : ∀ W : World, (W.alloc (.cells #[.int .i64 0, .bool false, .int .i64 0, .int .i64 0, .slice none 0 0] 43)).cell? ⟨W.heap.size, 2, none⟩ = some (.int .i64 0) := fun W => (blk_cell (heap_alloc_new W _) 2).trans rfl
    have nf2 : ∀ W : World, (W.alloc (.cells #[.int .i64 0, .bool false, .int .i64 0, .int .i64 0, .slice none 0 0] 43)).frozen? ⟨W.heap.size, 2, none⟩ = false := fun W => blk_frozen (heap_alloc_new W _) 2
    have nz3 : ∀ W : World, (W.alloc (.cells #[.int .i64 0, .bool false, .int .i64 0, .int .i64 0, .slice none 0 0] 43)).cell? ⟨W.heap.size, 3, none⟩ = some (.int .i64 0) := fun W => (blk_cell (heap_alloc_new W _) 3).trans rfl
    have nf3 : ∀ W : World, (W.alloc (.cells #[.int .i64 0, .bool false, .int .i64 0, .int .i64 0, .slice none 0 0] 43)).frozen? ⟨W.heap.size, 3, none⟩ = false := fun W => blk_frozen (heap_alloc_new W _) 3
    have nz4 : ∀ W : World, (W.alloc (.cells #[.int .i64 0, .bool false, .int .i64 0, .int .i64 0, .slice none 0 0] 43)).cell? ⟨W.heap.size, 4, none⟩ = some (.slice none 0 0) := fun W => (blk_cell (heap_alloc_new W _) 4).trans rfl
    have nf4 : ∀ W : World, (W.alloc (.cells #[.int .i64 0, .bool false, .int .i64 0, .int .i64 0, .slice none 0 0] 43)).frozen? ⟨W.heap.size, 4, none⟩ = false := fun W => blk_frozen (heap_alloc_new W _) 4
    go_upto_region 9 with (fail)
    go_cut [9] (fun v9 wd => ∃ (g : Nat) (v0 v1 : Int) (A4 : Option Addr) (n4 c4 : Nat), v9 = .pointer (some ⟨g, 0, none⟩) ∧ Aside0 (wd.heap[g]? = some (.cells #[.int .i64 ch, .bool false, .int .i64 v0, .int .i64 v1, .slice A4 n4 c4] 43 (0, 0))) ∧ Aside0 (Below w8.heap.size w8 wd))
    case first =>
      rename_i JJ KK hJ hM
      go_region_with (go_at_call 18; go_loud (refine (HA2.out _ (by repeat (first | exact HBWC.out | apply below_drew | apply pw_below_drewN | apply below_alloc))).mono ?_); rintro e u ⟨v0, v1, A4, n4, c4, rfl, hb⟩; have BU : Aside0 (Below w8.heap.size w8 u) := ⟨below_then (by repeat (first | exact HBR9.out | apply below_drew | apply pw_below_drewN | apply below_alloc)) (Below.size (by repeat (first | exact HBR9.out | apply below_drew | apply pw_below_drewN | apply below_alloc))) hb⟩; try (have qb : u.heap[w8.heap.size]? = some (.cells #[.int .i64 0, .bool false, .int .i64 0, .int .i64 0, .slice none 0 0] 43 (0, 0)) := blk_below (blk_drew (heap_alloc_new w8 _)) hb; have q0 : u.cell? ⟨w8.heap.size, 0, none⟩ = some (.int .i64 0) := (blk_cell qb 0).trans rfl; have f0 : u.frozen? ⟨w8.heap.size, 0, none⟩ = false := blk_frozen qb 0; have q1 : u.cell? ⟨w8.heap.size, 1, none⟩ = some (.bool false) := (blk_cell qb 1).trans rfl; have f1 : u.frozen? ⟨w8.heap.size, 1, none⟩ = false := blk_frozen qb 1; have q2 : u.cell? ⟨w8.heap.size, 2, none⟩ = some (.int .i64 0) := (blk_cell qb 2).trans rfl; have f2 : u.frozen? ⟨w8.heap.size, 2, none⟩ = false := blk_frozen qb 2; have q3 : u.cell? ⟨w8.heap.size, 3, none⟩ = some (.int .i64 0) := (blk_cell qb 3).trans rfl; have f3 : u.frozen? ⟨w8.heap.size, 3, none⟩ = false := blk_frozen qb 3; have q4 : u.cell? ⟨w8.heap.size, 4, none⟩ = some (.slice none 0 0) := (blk_cell qb 4).trans rfl; have f4 : u.frozen? ⟨w8.heap.size, 4, none⟩ = false := blk_frozen qb 4; have QB := Aside0.mk qb; clear qb); clear hb)
      all_goals clear ya0 ya1 yb0 yb1 y0 y1 y2 y3 y4 nz0 nz1 nz2 nz3 nz4 nf0 nf1 nf2 nf3 nf4
      all_goals (try clear q0 q1 q2 q3 q4 f0 f1 f2 f3 f4)
      all_goals refine hM _ _ ?_
      all_goals go_meet
      all_goals
        first
          | (have hq := QB; exact ⟨w8.heap.size, v0, v1, A4, n4, c4, rfl, ⟨put5 QB.out _ _ _ _ _⟩, ⟨bel5 BU.out HBR9.out.size _ _ _ _ _⟩⟩)
          | exact ⟨u.heap.size, v0, v1, A4, n4, c4, rfl, ⟨heap_alloc_new u _⟩, ⟨below_alloc BU.out _⟩⟩
    case rest =>
      rename_i zcutC0_ zcutC1_ zcutC2_ zcutC3_ zcutC4_ zcutC5_ zcutC6_ zcutC7_ zcutC8_ zcutC9_ zcutC10_ zcutC11_ zcutC12_ zcutC13_ zcutC14_ zcutC15_ zcutC16_ zcutC17_ zcutC18_ zcutC19_ zcutC20_ zcutC21_ zcutC22_ zcutC23_ zcutC24_ zcutC25_ zcutC26_ zcutC27_ zcutC28_ zcutC29_ zcutC30_ zcutC31_ zcutC32_ zcutC33_ zcutC34_ zcutC35_ zcutC36_ zcutC37_ zcutC38_ zcutC39_ zcutC40_ zcutC41_ zcutC42_ zcutC43_ zcutC44_ zcutC45_ zcutC46_ zcutC47_ zcutC48_ zcutC49_ zcutC50_ zcutC51_ zcutC52_ zcutC53_ zcutC54_ zcutC55_ zcutC56_ zcutC57_ zcutC58_ zcutC59_ zcutC60_ zcutC61_ zcutC62_ zcutC63_ zcutC64_ zcutC65_ zcutC66_ zcutC67_ zcutC68_ zcutC69_ zcutC70_ zcutC71_ zcutC72_ zcutC73_ zcutC74_ zcutC75_ zcutC76_ zcutC77_ zcutC78_ zcutC79_ zcutC80_ zcutC81_ zcutC82_ zcutC83_ zcutC84_ zcutC85_ zcutC86_ zcutC87_ zcutC88_ zcutC89_ zcutC90_ zcutC91_ zcutC92_ zcutC93_ zcutC94_ zcutC95_ zcutC96_ zcutC97_ zcutC98_ zcutC99_ zcutC100_ zcutC101_ zcutC102_
      revert A c l who w k1 PA HPO HSO hpl HPA HR HC HM HWHO hl4 zcutA0_ w1 w2 w3 ca B3 zcutA1_ zcutA2_ u4 zcutB0_ zcutC0_ zcutB1_ zcutB2_ zcutB3_ zcutB4_ zcutB5_ zcutB6_ zcutB7_ zcutB8_ zcutB9_ zcutB10_ zcutB11_ zcutB12_ zcutB13_ zcutB14_ zcutB15_ zcutB16_ zcutB17_ zcutB18_ zcutB19_ zcutB20_ zcutB21_ zcutB22_ zcutB23_ zcutB24_ zcutB25_ zcutB26_ zcutB27_ zcutB28_ zcutB29_ zcutB30_ zcutB31_ zcutB32_ zcutB33_ zcutB34_ zcutB35_ zcutB36_ zcutB37_ zcutB38_ zcutB39_ zcutB40_ zcutB41_ zcutB42_ zcutB43_ zcutB44_ zcutB45_ zcutB46_ zcutB47_ zcutB48_ zcutB49_ zcutB50_ zcutB51_ zcutB52_ zcutB53_ zcutB54_ zcutB55_ zcutB56_ zcutB57_ zcutB58_ zcutB59_ zcutB60_ zcutB61_ zcutB62_ zcutB63_ zcutB64_ zcutB65_ zcutB66_ zcutB67_ zcutB68_ zcutB69_ zcutB70_ zcutB71_ zcutB72_ zcutB73_ zcutB74_ zcutB75_ zcutB76_ zcutB77_ zcutB78_ zcutB79_ zcutB80_ zcutB81_ zcutB82_ zcutB83_ zcutB84_ zcutB85_ zcutB86_ zcutB87_ zcutB88_ zcutB89_ zcutB90_ i hi wo HBR hlt ad RA CA p q n m a b pid qid ch HX HCL HA2 HBW HPQ HL1 zcutC1_ zcutC2_ zcutC3_ zcutC4_ zcutC5_ zcutC6_ zcutC7_ zcutC8_ zcutC9_ zcutC10_ zcutB91_ zcutB92_ zcutB93_ zcutC11_ zcutC12_ zcutC13_ zcutC14_ zcutC15_ zcutC16_ zcutC17_ zcutC18_ zcutC19_ zcutC20_ zcutC21_ zcutC22_ zcutC23_ zcutC24_ zcutC25_ zcutC26_ zcutC27_ zcutC28_ zcutC29_ zcutC30_ zcutC31_ zcutC32_ zcutC33_ zcutC34_ zcutC35_ zcutC36_ zcutC37_ zcutC38_ zcutC39_ zcutC40_ zcutC41_ zcutC42_ zcutC43_ zcutC44_ zcutC45_ zcutC46_ zcutC47_ zcutC48_ zcutC49_ zcutC50_ zcutC51_ zcutC52_ zcutC53_ zcutC54_ zcutC55_ zcutC56_ zcutC57_ zcutC58_ zcutC59_ zcutC60_ zcutC61_ zcutC62_ zcutC63_ zcutC64_ zcutC65_ zcutC66_ zcutC67_ zcutC68_ zcutC69_ zcutC70_ zcutC71_ zcutC72_ zcutC73_ zcutC74_ zcutC75_ zcutC76_ zcutC77_ zcutC78_ zcutC79_ zcutC80_ zcutC81_ zcutC82_ zcutC83_ zcutC84_ zcutC85_ zcutC86_ zcutC87_ zcutC88_ zcutC89_ zcutC90_ zcutC91_ zcutC92_ zcutC93_ zcutC94_ zcutC95_ zcutC96_ zcutC97_ zcutC98_ zcutC99_ zcutC100_ gp p0 p1 pA pn pc w8 GP HBC y0 y1 y2 y3 y4 HBWC HBR9 ya0 ya1 yb0 yb1 nz0 nf0 nz1 nf1 nz2 nf2 nz3 nf3 nz4 nf4 zcutC101_ zcutC102_ wc u9 u26 u27 u28 u29 u30 u31 u32 u33 u34 u35 u36 u37 u38 u39 u40 u41 u42 u43 u44 u45 u46 u47 u48 u49 u50 u51 u52 u53 u54 u55 u56 u57 u58 u59 u60 u61 u62 u63 u64 u65 u66 u67 u68 u69 u70 u71 u72 u73 u74 u75 u76 u77 u78 u79 u80 u81 u82 u83 u84 u85 u86 u87 u88 u89 u90 u91 u92 u93 u94 u95 u96 u97 u98 u99 u100 u101 u102 u103 u104 u105 u106 u107 u108 u109 u110 u111 u112 u113 u114 u115 hcut
      exact hCut0.out
end Go.Proofs.Ytokbonceeglciaa.Bk
end
section
namespace Go.Proofs.Ytokbonceeglciaa.Bk
open Go.RowKit Go.Proofs.YtokbonceeglciaaW.PrintWords Go.Proofs.YtokbonceeglciaaW.PrintLast Go.Proofs.YtokbonceeglciaaW.PrintMore Go.Proofs.Ytokbonceeglciaa.Print Go.Proofs.Ytokbonceeglciaa.Given
set_option linter.unusedVariables false
set_option linter.unusedSimpArgs false
set_option maxRecDepth 100000 in
set_option maxHeartbeats 16000000 in
theorem cutD : cutC.1 := by
  intro A c l who w k1 PA HPO HSO hpl HPA HR HC HM HWHO hl4 zcutA0_ w1 w2 w3 ca B3 zcutA1_ zcutA2_ u4 zcutB0_ zcutC0_ zcutB1_ zcutB2_ zcutB3_ zcutB4_ zcutB5_ zcutB6_ zcutB7_ zcutB8_ zcutB9_ zcutB10_ zcutB11_ zcutB12_ zcutB13_ zcutB14_ zcutB15_ zcutB16_ zcutB17_ zcutB18_ zcutB19_ zcutB20_ zcutB21_ zcutB22_ zcutB23_ zcutB24_ zcutB25_ zcutB26_ zcutB27_ zcutB28_ zcutB29_ zcutB30_ zcutB31_ zcutB32_ zcutB33_ zcutB34_ zcutB35_ zcutB36_ zcutB37_ zcutB38_ zcutB39_ zcutB40_ zcutB41_ zcutB42_ zcutB43_ zcutB44_ zcutB45_ zcutB46_ zcutB47_ zcutB48_ zcutB49_ zcutB50_ zcutB51_ zcutB52_ zcutB53_ zcutB54_ zcutB55_ zcutB56_ zcutB57_ zcutB58_ zcutB59_ zcutB60_ zcutB61_ zcutB62_ zcutB63_ zcutB64_ zcutB65_ zcutB66_ zcutB67_ zcutB68_ zcutB69_ zcutB70_ zcutB71_ zcutB72_ zcutB73_ zcutB74_ zcutB75_ zcutB76_ zcutB77_ zcutB78_ zcutB79_ zcutB80_ zcutB81_ zcutB82_ zcutB83_ zcutB84_ zcutB85_ zcutB86_ zcutB87_ zcutB88_ zcutB89_ zcutB90_ i hi wo HBR hlt ad RA CA p q n m a b pid qid ch HX HCL HA2 HBW HPQ HL1 zcutC1_ zcutC2_ zcutC3_ zcutC4_ zcutC5_ zcutC6_ zcutC7_ zcutC8_ zcutC9_ zcutC10_ zcutB91_ zcutB92_ zcutB93_ zcutC11_ zcutC12_ zcutC13_ zcutC14_ zcutC15_ zcutC16_ zcutC17_ zcutC18_ zcutC19_ zcutC20_ zcutC21_ zcutC22_ zcutC23_ zcutC24_ zcutC25_ zcutC26_ zcutC27_ zcutC28_ zcutC29_ zcutC30_ zcutC31_ zcutC32_ zcutC33_ zcutC34_ zcutC35_ zcutC36_ zcutC37_ zcutC38_ zcutC39_ zcutC40_ zcutC41_ zcutC42_ zcutC43_ zcutC44_ zcutC45_ zcutC46_ zcutC47_ zcutC48_ zcutC49_ zcutC50_ zcutC51_ zcutC52_ zcutC53_ zcutC54_ zcutC55_ zcutC56_ zcutC57_ zcutC58_ zcutC59_ zcutC60_ zcutC61_ zcutC62_ zcutC63_ zcutC64_ zcutC65_ zcutC66_ zcutC67_ zcutC68_ zcutC69_ zcutC70_ zcutC71_ zcutC72_ zcutC73_ zcutC74_ zcutC75_ zcutC76_ zcutC77_ zcutC78_ zcutC79_ zcutC80_ zcutC81_ zcutC82_ zcutC83_ zcutC84_ zcutC85_ zcutC86_ zcutC87_ zcutC88_ zcutC89_ zcutC90_ zcutC91_ zcutC92_ zcutC93_ zcutC94_ zcutC95_ zcutC96_ zcutC97_ zcutC98_ zcutC99_ zcutC100_ gp p0 p1 pA pn pc w8 GP HBC y0 y1 y2 y3 y4 HBWC HBR9 ya0 ya1 yb0 yb1 nz0 nf0 nz1 nf1 nz2 nf2 nz3 nf3 nz4 nf4 zcutC101_ zcutC102_ wc u9 u26 u27 u28 u29 u30 u31 u32 u33 u34 u35 u36 u37 u38 u39 u40 u41 u42 u43 u44 u45 u46 u47 u48 u49 u50 u51 u52 u53 u54 u55 u56 u57 u58 u59 u60 u61 u62 u63 u64 u65 u66 u67 u68 u69 u70 u71 u72 u73 u74 u75 u76 u77 u78 u79 u80 u81 u82 u83 u84 u85 u86 u87 u88 u89 u90 u91 u92 u93 u94 u95 u96 u97 u98 u99 u100 u101 u102 u103 u104 u105 u106 u107 u108 u109 u110 u111 u112 u113 u114 u115 hcut
  clear HA2 ya0 ya1 yb0 yb1 y0 y1 y2 y3 y4 nz0 nz1 nz2 nz3 nz4 nf0 nf1 nf2 nf3 nf4
  obtain ⟨gq, q0, q1, qA, qn, qc, rfl, GQ, HBD⟩ := hcut
  obtain ⟨y0, y1, y2, y3, y4⟩ := HCL.out _ (below_then HBC.out HBC.out.size HBD.out)
  have GP2 := blk_below GP.out HBD.out
  have gq0 := GQ.out
  have x0 : wc.cell? ⟨gp, 0, none⟩ = some (.int .i64 ch) := (blk_cell GP2 0).trans rfl
  have x1 : wc.cell? ⟨gp, 1, none⟩ = some (.bool true) := (blk_cell GP2 1).trans rfl
  have z0 : wc.cell? ⟨gq, 0, none⟩ = some (.int .i64 ch) := (blk_cell gq0 0).trans rfl
  have z1 : wc.cell? ⟨gq, 1, none⟩ = some (.bool false) := (blk_cell gq0 1).trans rfl
  have hpq := HPQ.out
  have hl1 := HL1.out
  have HB10 := Aside0.mk (below_then HBC.out HBC.out.size HBD.out)
  clear GP2 gq0 GP GQ
  go_upto_region 10 with (fail)
  go_quiet (fail)
  generalize hw10 : wc.drewN _ = w10
  have HB11 : Aside0 (Below w3.heap.size w3 w10) := ⟨by rw [← hw10]; exact pw_below_drewN HB10.out _⟩
  clear hw10 y0 y1 y2 y3 y4 x0 x1 z0 z1 hpq hl1 HBD HBC HB10
  go_upto_region 12 with (fail)
  by_cases h0 : i = 0
  · subst h0
    go_quiet (fail)
    go_wp2_with (fail)
    go_roundw
    case rel => exact ⟨1, by go_num, by omega, ⟨pw_below_drewN HB11.out _⟩⟩
    case measure => simp [intOf]; omega
  · obtain ⟨i1, hi1⟩ : ∃ i1, i1 = i - 1 := ⟨_, rfl⟩
    obtain ⟨t, ht⟩ : ∃ t, PA[i1]? = some t := ⟨_, List.getElem?_eq_getElem (by omega)⟩
    obtain ⟨ad', e, hcl'⟩ := cells47 CA.out.2.2 i1 t ht
    cases e
    obtain ⟨x0, x1, x2, x3, x4⟩ := hcl' _ HB11.out
    obtain ⟨y0, y1, y2, y3, y4⟩ := HCL.out _ HB11.out
    have hlt2 : ltP t ⟨pid, n, qid, m, ch⟩ := by
      obtain ⟨g1, g2⟩ := List.getElem?_eq_some_iff.1 ht
      obtain ⟨g3, g4⟩ := List.getElem?_eq_some_iff.1 HX.out
      have := List.pairwise_iff_getElem.1 HSO.out i1 i g1 g3 (by omega)
      rwa [g2, g4] at this
    have HLT := Aside0.mk hlt2
    have hgt : decide (0 < i) = true := decide_eq_true (by omega)
    have hwr : IntKind.i64.wrap ((i : Int) - 1) = (i1 : Int) := by rw [Go.IntWalk.i64_in _ (by omega)]; omega
    have hlb : i1 < PA.length := by omega
    clear hcl' ht hlt2 h0 hi1
    refine start_ (n := 15) (S := fun w' => w'.cell? (ad.add (i1 * 5)) = some (.int .i64 t.f0) ∧ w'.cell? ⟨(ad.add (i1 * 5)).block, (ad.add (i1 * 5)).off + 1, none⟩ = some (.int .i64 t.f1) ∧ w'.cell? ⟨(ad.add (i1 * 5)).block, (ad.add (i1 * 5)).off + 2, none⟩ = some (.int .i64 t.f2) ∧ w'.cell? ⟨(ad.add (i1 * 5)).block, (ad.add (i1 * 5)).off + 3, none⟩ = some (.int .i64 t.f3) ∧ w'.cell? ⟨(ad.add (i1 * 5)).block, (ad.add (i1 * 5)).off + 4, none⟩ = some (.int .i64 t.f4) ∧ w'.cell? (ad.add (i * 5)) = some (.int .i64 pid) ∧ w'.cell? ⟨(ad.add (i * 5)).block, (ad.add (i * 5)).off + 1, none⟩ = some (.int .i64 (n : Int)) ∧ w'.cell? ⟨(ad.add (i * 5)).block, (ad.add (i * 5)).off + 2, none⟩ = some (.int .i64 qid) ∧ w'.cell? ⟨(ad.add (i * 5)).block, (ad.add (i * 5)).off + 3, none⟩ = some (.int .i64 (m : Int)) ∧ w'.cell? ⟨(ad.add (i * 5)).block, (ad.add (i * 5)).off + 4, none⟩ = some (.int .i64 ch)) (ds := []) #[false, false, false, false, false, false, false, false, false, false, false, false, false, false, false] (by kernel_rfl) rfl rfl ⟨x0, x1, x2, x3, x4, y0, y1, y2, y3, y4⟩ (fun hHeld => ?_)
    refine with_tabW l12tab l12bits (fun HT_ HW_ => ?_)
    have HB12 := Aside0.mk (below_drew1 HB11.out)
    generalize w10.drew = w12 at HB12 hHeld ⊢
    refine pure_ (i := 0) (N := some 101) (v := ?_) (a' := ?_) #[true, false, false, false, false, false, false, false, false, false, false, false, false, false, false] rfl rfl (any_of HT_.out (by kernel_rfl)) (fun _ _ _ h => h) (Or.inl ⟨by rfl, ?_⟩) ?_ ?_
    rotate_left
    · intro w'
      go_simp
      with_reducible rfl
    rotate_left
    · simp only [Act.put, List.setIfInBounds_toArray, List.set_cons_zero, List.set_cons_succ, i64_w, i32_w]
      rfl
    refine pure_ (i := 1) (N := some 102) (v := ?_) (a' := ?_) #[true, true, false, false, false, false, false, false, false, false, false, false, false, false, false] rfl rfl (any_of HT_.out (by kernel_rfl)) (fun _ _ _ h => h) (Or.inl ⟨by rfl, ?_⟩) ?_ ?_
    rotate_left
    · intro w'
      go_simp
      with_reducible rfl
    rotate_left
    · simp only [Act.put, List.setIfInBounds_toArray, List.set_cons_zero, List.set_cons_succ, i64_w, i32_w]
      rfl
    refine pure_ (i := 2) (N := some 103) (v := ?_) (a' := ?_) #[true, true, true, false, false, false, false, false, false, false, false, false, false, false, false] rfl rfl (any_of HT_.out (by kernel_rfl)) (fun _ _ _ h => h) (Or.inl ⟨by rfl, ?_⟩) ?_ ?_
    rotate_left
    · intro w'
      go_simp
      with_reducible rfl
    rotate_left
    · simp only [Act.put, List.setIfInBounds_toArray, List.set_cons_zero, List.set_cons_succ, i64_w, i32_w]
      rfl
    refine pure_ (i := 3) (N := some 104) (v := ?_) (a' := ?_) #[true, true, true, true, false, false, false, false, false, false, false, false, false, false, false] rfl rfl (any_of HT_.out (by kernel_rfl)) (fun _ _ _ h => h) (Or.inl ⟨by rfl, ?_⟩) ?_ ?_
    rotate_left
    · intro w'
      go_simp
      with_reducible rfl
    rotate_left
    · simp only [Act.put, List.setIfInBounds_toArray, List.set_cons_zero, List.set_cons_succ, i64_w, i32_w]
      rfl
    refine pure_ (i := 4) (N := some 105) (v := ?_) (a' := ?_) #[true, true, true, true, true, false, false, false, false, false, false, false, false, false, false] rfl rfl (any_of HT_.out (by kernel_rfl)) (fun _ _ _ h => h) (Or.inl ⟨by rfl, ?_⟩) ?_ ?_
    rotate_left
    · intro w'
      go_simp
      with_reducible rfl
    rotate_left
    · simp only [Act.put, List.setIfInBounds_toArray, List.set_cons_zero, List.set_cons_succ, i64_w, i32_w]
      rfl
    refine pure_ (i := 5) (N := some 106) (v := ?_) (a' := ?_) #[true, true, true, true, true, true, false, false, false, false, false, false, false, false, false] rfl rfl (any_of HT_.out (by kernel_rfl)) (fun _ _ _ h => h) (Or.inl ⟨by rfl, ?_⟩) ?_ ?_
    rotate_left
    · intro w'
      go_simp
      with_reducible rfl
    rotate_left
    · simp only [Act.put, List.setIfInBounds_toArray, List.set_cons_zero, List.set_cons_succ, i64_w, i32_w]
      rfl
    refine pure_ (i := 6) (N := some 107) (v := ?_) (a' := ?_) #[true, true, true, true, true, true, true, false, false, false, false, false, false, false, false] rfl rfl (any_of HT_.out (by kernel_rfl)) (fun _ _ _ h => h) (Or.inl ⟨by rfl, ?_⟩) ?_ ?_
    rotate_left
    · intro w'
      go_simp
      with_reducible rfl
    rotate_left
    · simp only [Act.put, List.setIfInBounds_toArray, List.set_cons_zero, List.set_cons_succ, i64_w, i32_w]
      rfl
    refine take_ (i := 7) (N := some 108) (v := ?_) (a' := ?_) #[true, true, true, true, true, true, true, true, false, false, false, false, false, false, false] rfl rfl (take_ofW HT_.out HW_.out (by kernel_rfl)) (fun _ _ _ h => h) (Or.inl ⟨by rfl, ?_⟩) hHeld ?_ ?_
    rotate_left
    · rintro w' ⟨s0, s1, s2, s3, s4, s5, s6, s7, s8, s9⟩
      go_simp
      with_reducible rfl
    rotate_left
    · simp only [Act.put, List.setIfInBounds_toArray, List.set_cons_zero, List.set_cons_succ, i64_w, i32_w]
      rfl
    refine pure_ (i := 8) (N := some 109) (v := ?_) (a' := ?_) #[true, true, true, true, true, true, true, true, true, false, false, false, false, false, false] rfl rfl (any_of HT_.out (by kernel_rfl)) (fun _ _ _ h => h) (Or.inl ⟨by rfl, ?_⟩) ?_ ?_
    rotate_left
    · intro w'
      go_simp
      with_reducible rfl
    rotate_left
    · simp only [Act.put, List.setIfInBounds_toArray, List.set_cons_zero, List.set_cons_succ, i64_w, i32_w]
      rfl
    refine pure_ (i := 9) (N := some 110) (v := ?_) (a' := ?_) #[true, true, true, true, true, true, true, true, true, true, false, false, false, false, false] rfl rfl (any_of HT_.out (by kernel_rfl)) (fun _ _ _ h => h) (Or.inl ⟨by rfl, ?_⟩) ?_ ?_
    rotate_left
    · intro w'
      go_simp
      with_reducible rfl
    rotate_left
    · simp only [Act.put, List.setIfInBounds_toArray, List.set_cons_zero, List.set_cons_succ, i64_w, i32_w]
      rfl
    refine pure_ (i := 10) (N := some 111) (v := ?_) (a' := ?_) #[true, true, true, true, true, true, true, true, true, true, true, false, false, false, false] rfl rfl (any_of HT_.out (by kernel_rfl)) (fun _ _ _ h => h) (Or.inl ⟨by rfl, ?_⟩) ?_ ?_
    rotate_left
    · intro w'
      go_simp
      with_reducible rfl
    rotate_left
    · simp only [Act.put, List.setIfInBounds_toArray, List.set_cons_zero, List.set_cons_succ, i64_w, i32_w]
      rfl
    refine take_ (i := 11) (N := some 112) (v := ?_) (a' := ?_) #[true, true, true, true, true, true, true, true, true, true, true, true, false, false, false] rfl rfl (take_ofW HT_.out HW_.out (by kernel_rfl)) (fun _ _ _ h => h) (Or.inl ⟨by rfl, ?_⟩) hHeld ?_ ?_
    rotate_left
    · rintro w' ⟨s0, s1, s2, s3, s4, s5, s6, s7, s8, s9⟩
      go_simp
      with_reducible rfl
    rotate_left
    · simp only [Act.put, List.setIfInBounds_toArray, List.set_cons_zero, List.set_cons_succ, i64_w, i32_w]
      rfl
    refine one_ (i := 12) (N := some 113) #[true, true, true, true, true, true, true, true, true, true, true, true, true, false, false] rfl rfl (one_of HT_.out (by kernel_rfl)) (by decide) (fun K hK => ?_)
    refine goes_ Try.func19 (by kernel_rfl) rfl #[.agg #[.int .i64 t.f0, .int .i64 t.f1, .int .i64 t.f2, .int .i64 t.f3, .int .i64 t.f4], .agg #[.int .i64 pid, .int .i64 (n : Int), .int .i64 qid, .int .i64 (m : Int), .int .i64 ch]] (by rfl) rfl rfl (by (try simp only [List.map_toArray, List.map_cons, List.map_nil]); first | done | rfl) ?_
    refine (rises_any t ⟨pid, n, qid, m, ch⟩ _ HLT.out).mono ?_
    rintro e w13 ⟨rfl, hb⟩
    refine ⟨_, rfl, ?_⟩
    have HB13 := Aside0.mk (below_then HB12.out HB12.out.size hb)
    refine hK.out _ _ ⟨pw_cell_below hb hHeld.1, pw_cell_below hb hHeld.2.1, pw_cell_below hb hHeld.2.2.1, pw_cell_below hb hHeld.2.2.2.1, pw_cell_below hb hHeld.2.2.2.2.1, pw_cell_below hb hHeld.2.2.2.2.2.1, pw_cell_below hb hHeld.2.2.2.2.2.2.1, pw_cell_below hb hHeld.2.2.2.2.2.2.2.1, pw_cell_below hb hHeld.2.2.2.2.2.2.2.2.1, pw_cell_below hb hHeld.2.2.2.2.2.2.2.2.2⟩ (fun hHeld => ?_)
    clear hK K
    refine norm_ (a' := ?_) ?_ ?_
    rotate_left
    · show Act.put _ (some 113) _ = _
      simp only [Act.put, List.setIfInBounds_toArray, List.set_cons_zero, List.set_cons_succ, i64_w, i32_w]
      rfl
    refine pure_ (i := 13) (N := some 114) (v := ?_) (a' := ?_) #[true, true, true, true, true, true, true, true, true, true, true, true, true, true, false] rfl rfl (any_of HT_.out (by kernel_rfl)) (fun _ _ _ h => h) (Or.inl ⟨by rfl, ?_⟩) ?_ ?_
    rotate_left
    · intro w'
      go_simp
      with_reducible rfl
    rotate_left
    · simp only [Act.put, List.setIfInBounds_toArray, List.set_cons_zero, List.set_cons_succ, i64_w, i32_w]
      rfl
    refine pure_ (i := 14) (N := some 115) (v := ?_) (a' := ?_) #[true, true, true, true, true, true, true, true, true, true, true, true, true, true, true] rfl rfl (any_of HT_.out (by kernel_rfl)) (fun _ _ _ h => h) (Or.inl ⟨by rfl, ?_⟩) ?_ ?_
    rotate_left
    · intro w'
      go_simp
      with_reducible rfl
    rotate_left
    · simp only [Act.put, List.setIfInBounds_toArray, List.set_cons_zero, List.set_cons_succ, i64_w, i32_w]
      rfl
    refine done_ (done_of HT_.out (by kernel_rfl)) ?_
    clear hHeld
    go_wp2_with (fail)
    go_roundw
    case rel => exact ⟨i + 1, by go_num, by omega, HB13⟩
    case measure => simp [intOf]; omega
end Go.Proofs.Ytokbonceeglciaa.Bk
end
section
namespace Go.Proofs.Ytokbonceeglciaa.Bk
open Go.RowKit Go.Proofs.YtokbonceeglciaaW.PrintWords Go.Proofs.YtokbonceeglciaaW.PrintLast Go.Proofs.YtokbonceeglciaaW.PrintMore Go.Proofs.Ytokbonceeglciaa.Print Go.Proofs.Ytokbonceeglciaa.Given
set_option linter.unusedVariables false
set_option linter.unusedSimpArgs false
set_option maxRecDepth 100000 in
set_option maxHeartbeats 16000000 in
noncomputable def cutE : PSigma fun P0 : Prop => PSigma fun P1 : Prop => Aside0 P0 → Aside0 P1 → cutA.2.1 := by
  apply PSigma.mk
  ·
    apply PSigma.mk
    ·
      intro hCut0 hCut1
      intro A c l who w k1 PA HPO HSO hpl HPA HR HC HM HWHO hl4 zcutA0_ w1 w2 w3 Aa ca B3 RA zcutA1_ zcutA2_ CA u4 u8 u9 u26 u27 u28 u29 u30 u31 u32 u33 u34 u35 u36 u37 u38 u39 u40 u41 u42 u43 u44 u45 u46 u47 u48 u49 u50 u51 u52 u53 u54 u55 u56 u57 u58 u59 u60 u61 u62 u63 u64 u65 u66 u67 u68 u69 u70 u71 u72 u73 u74 u75 u76 u77 u78 u79 u80 u81 u82 u83 u84 u85 u86 u87 u88 u89 u90 u91 u92 u93 u94 u95 u96 u97 u98 u99 u100 u101 u102 u103 u104 u105 u106 u107 u108 u109 u110 u111 u112 u113 u114 u115 i hi wo HBR hlt
      obtain rfl : i = PA.length := by omega
      obtain ⟨w4, rfl⟩ : ∃ w4 : World, w4 = wo := ⟨_, rfl⟩
      have HLN : Aside0 (∀ x ∈ l, x.f1.length ≤ 4000) := ⟨fun x hx => by have := arms_mem l x hx; have := HM.out; omega⟩
      have HLM : Aside0 (∀ x ∈ l, x.f1.length ≤ 1000000) := ⟨fun x hx => by have := arms_mem l x hx; have := HM.out; omega⟩
      have B4 : Aside0 (Below w.heap.size w w4) := ⟨B3.out.trans (HBR.out.mono B3.out.size)⟩
      go_upto_region 15 with (go_at_call 8; go_loud (refine (lent_any A c l w w4 HR.out B4.out HC.out hl4 HLN.out).mono ?_); rintro e w6 ⟨ga, gs, vr, rfl, hL, hb⟩; have HL6 := Aside0.mk hL; have B6_ := Aside0.mk hb; clear hL hb)
      obtain ⟨Ar, cr, rfl⟩ : ∃ Ar cr, vr = .slice Ar l.length cr := by
        obtain ⟨Ar, cr, e⟩ := Kd.R_slice HL6.out.rows
        rw [rowsM_len l gs HL6.out.len] at e
        exact ⟨Ar, cr, e⟩
      have B6 : Aside0 (Below w.heap.size w w6) := ⟨below_then B4.out B4.out.size B6_.out⟩
      have CA6 := Aside0.mk (Kd.C_below CA.out.2.2 (HBR.out.trans (B6_.out.mono HBR.out.size)))
      have ZX : Aside0 (w.heap.size ≤ w4.heap.size) := ⟨B4.out.size⟩
      have HCA := Aside0.mk CA.out.2.1
      have S36 : Aside0 (w3.heap.size ≤ w6.heap.size) := ⟨Nat.le_trans HBR.out.size B6_.out.size⟩
      have K47 : Aside0 (Below w3.heap.size w3 w6) := ⟨HBR.out.trans (B6_.out.mono HBR.out.size)⟩
      clear CA HBR B4 B6_ hlt
      go_wp2_with (fail)
      go_loopw [12, 13] (fun v12 _ wr => ∃ i : Nat, v12 = .int .i64 i ∧ i ≤ l.length ∧ Aside0 (Lent w wr w4.heap.size l (FF l i 0) gs ga tail38 (.slice Ar l.length cr)) ∧ Aside0 (Fo 43 w.heap.size w6 wr)) (fun v12 _ _ => l.length - (intOf v12).toNat)
      case atStart => exact ⟨0, rfl, by omega, ⟨by rw [FF_start]; exact HL6.out⟩, ⟨Fo.refl _ _ _⟩⟩
      case round =>
        obtain ⟨i, rfl, hi, HLO, HFO⟩ := hrel
        by_cases hlt2 : i < l.length
        · rename_i zcutE0_ zcutE1_ zcutE2_ zcutE3_ zcutE4_ zcutE5_
          revert A c l who w k1 PA HPO HSO hpl HPA HR HC HM HWHO hl4 zcutA0_ w1 w2 w3 Aa ca B3 RA zcutA1_ u4 u8 u9 u26 u27 u28 u29 u30 u31 u32 u33 u34 u35 u36 u37 u38 u39 u40 u41 u42 u43 u44 u45 u46 u47 u48 u49 u50 u51 u52 u53 u54 u55 u56 u57 u58 u59 u60 u61 u62 u63 u64 u65 u66 u67 u68 u69 u70 u71 u72 u73 u74 u75 u76 u77 u78 u79 u80 u81 u82 u83 u84 u85 u86 u87 u88 u89 u90 u91 u92 u93 u94 u95 u96 u97 u98 u99 u100 u101 u102 u103 u104 u105 u106 u107 u108 u109 u110 u111 u112 u113 u114 u115 zcutE0_ w4 HLN HLM zcutE1_ zcutE2_ zcutE3_ w6 ga gs zcutE4_ zcutE5_ Ar cr HL6 B6 CA6 ZX HCA S36 K47 wr u13 u121 u122 u123 u124 u125 u126 u127 u128 u129 u130 u131 u132 u133 u134 u135 u136 u137 u138 u139 u140 u141 u142 u143 u144 u145 u146 u147 u148 u149 u150 u151 u152 i hi HLO HFO hlt2
          exact hCut0.out
        · rename_i zcutE0_ zcutE1_ zcutE2_ zcutE3_ zcutE4_ zcutE5_
          revert A c l who w k1 PA HPO HSO hpl HPA HR HC HM HWHO hl4 zcutA0_ w1 w2 w3 Aa ca B3 RA zcutA1_ u4 u8 u9 u26 u27 u28 u29 u30 u31 u32 u33 u34 u35 u36 u37 u38 u39 u40 u41 u42 u43 u44 u45 u46 u47 u48 u49 u50 u51 u52 u53 u54 u55 u56 u57 u58 u59 u60 u61 u62 u63 u64 u65 u66 u67 u68 u69 u70 u71 u72 u73 u74 u75 u76 u77 u78 u79 u80 u81 u82 u83 u84 u85 u86 u87 u88 u89 u90 u91 u92 u93 u94 u95 u96 u97 u98 u99 u100 u101 u102 u103 u104 u105 u106 u107 u108 u109 u110 u111 u112 u113 u114 u115 zcutE0_ w4 HLN HLM zcutE1_ zcutE2_ zcutE3_ w6 ga gs zcutE4_ zcutE5_ Ar cr HL6 B6 CA6 ZX HCA S36 K47 wr u13 u121 u122 u123 u124 u125 u126 u127 u128 u129 u130 u131 u132 u133 u134 u135 u136 u137 u138 u139 u140 u141 u142 u143 u144 u145 u146 u147 u148 u149 u150 u151 u152 i hi HLO HFO hlt2
          exact hCut1.out
end Go.Proofs.Ytokbonceeglciaa.Bk
end
section
namespace Go.Proofs.Ytokbonceeglciaa.Bk
open Go.RowKit Go.Proofs.YtokbonceeglciaaW.PrintWords Go.Proofs.YtokbonceeglciaaW.PrintLast Go.Proofs.YtokbonceeglciaaW.PrintMore Go.Proofs.Ytokbonceeglciaa.Print Go.Proofs.Ytokbonceeglciaa.Given
set_option linter.unusedVariables false
set_option linter.unusedSimpArgs false
set_option maxRecDepth 100000 in
set_option maxHeartbeats 16000000 in
theorem cutF : cutE.1 := by
  intro A c l who w k1 PA HPO HSO hpl HPA HR HC HM HWHO hl4 zcutA0_ w1 w2 w3 Aa ca B3 RA zcutA1_ u4 u8 u9 u26 u27 u28 u29 u30 u31 u32 u33 u34 u35 u36 u37 u38 u39 u40 u41 u42 u43 u44 u45 u46 u47 u48 u49 u50 u51 u52 u53 u54 u55 u56 u57 u58 u59 u60 u61 u62 u63 u64 u65 u66 u67 u68 u69 u70 u71 u72 u73 u74 u75 u76 u77 u78 u79 u80 u81 u82 u83 u84 u85 u86 u87 u88 u89 u90 u91 u92 u93 u94 u95 u96 u97 u98 u99 u100 u101 u102 u103 u104 u105 u106 u107 u108 u109 u110 u111 u112 u113 u114 u115 zcutE0_ w4 HLN HLM zcutE1_ zcutE2_ zcutE3_ w6 ga gs zcutE4_ zcutE5_ Ar cr HL6 B6 CA6 ZX HCA S36 K47 wr u13 u121 u122 u123 u124 u125 u126 u127 u128 u129 u130 u131 u132 u133 u134 u135 u136 u137 u138 u139 u140 u141 u142 u143 u144 u145 u146 u147 u148 u149 u150 u151 u152 i hi HLO HFO hlt2
  obtain ⟨ad, A1, c1, rfl, _, x1, hl1, _⟩ := at_T38 HR.out (i : Int) (by omega) (by omega)
  have hel : rd_T38 l i = l[i] := by simp [rd_T38, List.getElem?_eq_getElem hlt2]
  have hli : l[i]? = some l[i] := List.getElem?_eq_getElem hlt2
  obtain ⟨x, hx⟩ : ∃ x, x = l[i] := ⟨_, rfl⟩
  have hxm := HLN.out l[i] (List.getElem_mem hlt2)
  rw [hel, Int.toNat_natCast, ← hx] at x1
  rw [hel, ← hx] at hl1
  rw [← hx] at hli hxm
  obtain ⟨id, xs⟩ := x
  dsimp only at x1 hl1 hxm
  have X1 := Aside0.mk x1
  have HLI := Aside0.mk hli
  obtain ⟨g, hg⟩ : ∃ g, gs[i]? = some g := ⟨_, List.getElem?_eq_getElem (by rw [HLO.out.len]; exact hlt2)⟩
  have HG := Aside0.mk hg
  obtain ⟨go, rfl, _⟩ := HLO.out.slot hg hli
  have hfl : (FL l i).length = xs.length := by rw [FL_at hli]
  have HFL := Aside0.mk hfl
  have HGB : Aside0 (w.heap.size ≤ g) := ⟨Nat.le_trans ZX.out (HLO.out.lows g (List.mem_of_getElem? hg))⟩
  clear x1 hli hx hel hg hfl
  go_wp2_with (fail)
  go_loopw [13] (fun v13 wr => ∃ k : Nat, v13 = .int .i64 k ∧ k ≤ xs.length ∧ Aside0 (Lent w wr w4.heap.size l (FF l i k) gs ga tail38 (.slice (some ⟨go, 0, none⟩) l.length cr)) ∧ Aside0 (Fo 43 w.heap.size w6 wr)) (fun v13 _ => xs.length - (intOf v13).toNat)
  case atStart => exact ⟨0, rfl, by omega, HLO, HFO⟩
  case round =>
    clear HLO HFO
    obtain ⟨k, rfl, hk, HLO, HFO⟩ := hrel
    obtain ⟨wo, rfl⟩ : ∃ wo : World, wo = wr := ⟨_, rfl⟩
    have y1 := pw_cell_below (B6.out.trans HFO.out.1) X1.out
    by_cases hkn : k < xs.length
    · obtain ⟨b, hb⟩ : ∃ b, xs[k]? = some b := ⟨_, List.getElem?_eq_getElem hkn⟩
      obtain ⟨go2, e2, y2⟩ := HLO.out.slot HG.out HLI.out
      injection e2 with e2
      injection e2 with e2
      subst e2
      have hA := HLO.out.arms i g HG.out
      have y3 := arm_cell hA (k := k) (a := b) (by
        unfold FF
        rw [if_neg (by omega), if_pos rfl, FL_at HLI.out]
        have := flK_of xs k k b hb
        rwa [if_neg (by omega)] at this)
      have y4 := arm_frozen hA (k * 5 + 1)
      have HBK := Aside0.mk hb
      have HAB := Aside0.mk hA
      dsimp only at y2
      clear hb hA
      go_upto_region 21 with (fail)
      go_region
      obtain ⟨W7, hW7⟩ : ∃ W7, W7 = (wo.setCell ⟨g, k * 5 + 1, none⟩ (.bool (!b.f1))).drew := ⟨_, rfl⟩
      rw [← hW7]
      have HLN2 : Aside0 (Lent w W7 w4.heap.size l (FF l i (k + 1)) gs ga tail38 (.slice (some ⟨go, 0, none⟩) l.length cr)) := ⟨by rw [hW7]; exact (HLO.out.flip HG.out HLI.out HBK.out).below (below_drew (Below.refl _ _))⟩
      have HFN2 : Aside0 (Fo 43 w.heap.size w6 W7) := ⟨by
        rw [hW7]
        exact HFO.out.trans ⟨below_drew (below_setG (Below.refl _ _) HGB.out _ _), fun t ht => (arm_kt HAB.out ht _ _).trans (KT.below (below_drew (Below.refl _ _)))⟩⟩
      clear hW7 y1 y2 y3 y4
      go_wp2_with (fail)
      go_roundw
      case rel => exact ⟨k + 1, by go_num, by omega, HLN2, HFN2⟩
      case measure => simp [intOf]; omega
    · obtain rfl : k = xs.length := by omega
      have hnx := FF_next l i HFL.out
      have HNX := Aside0.mk hnx
      clear hnx
      go_wp2_with (fail)
      go_roundw
      case rel => exact ⟨i + 1, by go_num, by omega, ⟨by rw [← HNX.out]; exact HLO.out⟩, HFO⟩
      case measure => simp [intOf]; omega
end Go.Proofs.Ytokbonceeglciaa.Bk
end
section
namespace Go.Proofs.Ytokbonceeglciaa.Bk
open Go.RowKit Go.Proofs.YtokbonceeglciaaW.PrintWords Go.Proofs.YtokbonceeglciaaW.PrintLast Go.Proofs.YtokbonceeglciaaW.PrintMore Go.Proofs.Ytokbonceeglciaa.Print Go.Proofs.Ytokbonceeglciaa.Given
set_option linter.unusedVariables false
set_option linter.unusedSimpArgs false
set_option maxRecDepth 100000 in
set_option maxHeartbeats 16000000 in
noncomputable def cutG : PSigma fun P0 : Prop => PSigma fun P1 : Prop => Aside0 P0 → Aside0 P1 → cutE.2.1 := by
  apply PSigma.mk
  ·
    apply PSigma.mk
    ·
      intro hCut0 hCut1
      intro A c l who w k1 PA HPO HSO hpl HPA HR HC HM HWHO hl4 zcutA0_ w1 w2 w3 Aa ca B3 RA zcutA1_ u4 u8 u9 u26 u27 u28 u29 u30 u31 u32 u33 u34 u35 u36 u37 u38 u39 u40 u41 u42 u43 u44 u45 u46 u47 u48 u49 u50 u51 u52 u53 u54 u55 u56 u57 u58 u59 u60 u61 u62 u63 u64 u65 u66 u67 u68 u69 u70 u71 u72 u73 u74 u75 u76 u77 u78 u79 u80 u81 u82 u83 u84 u85 u86 u87 u88 u89 u90 u91 u92 u93 u94 u95 u96 u97 u98 u99 u100 u101 u102 u103 u104 u105 u106 u107 u108 u109 u110 u111 u112 u113 u114 u115 zcutE0_ w4 HLN HLM zcutE1_ zcutE2_ zcutE3_ w6 ga gs zcutE4_ zcutE5_ Ar cr HL6 B6 CA6 ZX HCA S36 K47 wr u13 u121 u122 u123 u124 u125 u126 u127 u128 u129 u130 u131 u132 u133 u134 u135 u136 u137 u138 u139 u140 u141 u142 u143 u144 u145 u146 u147 u148 u149 u150 u151 u152 i hi HLO HFO hlt2
      obtain rfl : i = l.length := by omega
      obtain ⟨w7, rfl⟩ : ∃ w7 : World, w7 = wr := ⟨_, rfl⟩
      have B7 : Aside0 (Below w.heap.size w w7) := ⟨B6.out.trans HFO.out.1⟩
      have hal : arms (l.map flipW) = arms l := arms_flip l
      have hal2 : (l.map flipW).length = l.length := List.length_map _
      have hC7 := HLO.out.C B7.out HLM.out (by omega)
      rw [withF_flip] at hC7
      obtain ⟨PB, hPB⟩ : ∃ P, P = pairsOf (l.map flipW) := ⟨_, rfl⟩
      have hcp : Calls Try.prog 10 #[.slice (some ⟨ga, 0, none⟩) l.length (l.length + 1)] w7 fun e w' => ∃ v0_ : Value, e = .returned v0_ ∧ Kd.R k47 47 w' w7.heap.size (fun _ => True) v0_ PB ∧ Below w7.heap.size w7 w' := by
        have hm := HM.out
        have h := post_Pairs.calls (some ⟨ga, 0, none⟩) (l.length + 1) (l.map flipW) PB w7 hC7 (by rw [hal2]; omega) (by unfold post_Pairs.f; rw [if_pos (by rw [hal, hal2]; omega), hPB])
        rwa [hal2] at h
      have HCP := Aside0.mk hcp
      have CA7 : Aside0 (Kd.C k47 w7 Aa PA.length PA) := ⟨(Kd.R_reads' (R_kt rfl RA.out ((KT.below K47.out).trans (HFO.out.2 47 (by decide))))).2.2⟩
      have hlenAB : PB.length = PA.length := by rw [hPB, HPA.out]; exact (pairs_flip_len l).symm
      have HREV : Aside0 (∀ y ∈ PB, revP y ∈ PA) := ⟨fun y hy => by rw [HPA.out]; rw [hPB] at hy; exact pairs_rev hy⟩
      clear hcp hal hal2 hC7 hPB HLO hlt2 HL6
      go_upto_region 23 with (go_at_call 10; go_loud (refine HCP.out.mono ?_); rintro e w9 ⟨vb, rfl, hR, hb⟩; obtain ⟨Ab, cb, rfl⟩ := Kd.R_slice hR; have CB := Aside0.mk (Kd.R_reads' hR); have B9 := Aside0.mk (below_then B7.out B7.out.size hb); have CA9 := Aside0.mk (Kd.C_below CA7.out hb); clear hR hb)
      have hle : decide ((PA.length : Int) = (PA.length : Int)) = true := decide_eq_true rfl
      go_upto_region 26 with (fail)
      clear hle
      go_loopw [15, 16, 17] (fun v15 _ _ wr => ∃ i : Nat, v15 = .int .i64 i ∧ i ≤ PA.length ∧ Aside0 (Below w9.heap.size w9 wr)) (fun v15 _ _ _ => PA.length - (intOf v15).toNat)
      case atStart => exact ⟨0, rfl, by omega, ⟨Below.refl _ _⟩⟩
      case round =>
        obtain ⟨i, rfl, hi2, HBR⟩ := hrel
        by_cases hlt : i < PA.length
        · rename_i zcutG0_ zcutG1_ zcutG2_ zcutG3_ zcutG4_ zcutG5_
          revert A c l who w k1 PA HPO HSO hpl HPA HR HC HM HWHO hl4 zcutA0_ w1 w2 w3 Aa ca B3 RA zcutA1_ zcutG0_ u8 u9 u26 u27 u28 u29 u30 u31 u32 u33 u34 u35 u36 u37 u38 u39 u40 u41 u42 u43 u44 u45 u46 u47 u48 u49 u50 u51 u52 u53 u54 u55 u56 u57 u58 u59 u60 u61 u62 u63 u64 u65 u66 u67 u68 u69 u70 u71 u72 u73 u74 u75 u76 u77 u78 u79 u80 u81 u82 u83 u84 u85 u86 u87 u88 u89 u90 u91 u92 u93 u94 u95 u96 u97 u98 u99 u100 u101 u102 u103 u104 u105 u106 u107 u108 u109 u110 u111 u112 u113 u114 u115 zcutE0_ w4 HLN HLM zcutE1_ zcutE2_ zcutE3_ w6 ga gs zcutE4_ Ar cr B6 CA6 ZX HCA S36 K47 u13 u121 u122 u123 u124 u125 u126 u127 u128 u129 u130 u131 u132 u133 u134 u135 u136 u137 u138 u139 u140 u141 u142 u143 u144 u145 u146 u147 u148 u149 u150 u151 u152 hi w7 HFO B7 PB HCP CA7 hlenAB HREV zcutG1_ zcutG2_ zcutG3_ w9 Ab cb B9 CA9 CB zcutG4_ zcutG5_ wr u4 u16 u17 u163 u164 u165 u166 u167 u168 u169 u170 u171 u172 u173 u174 u175 u176 u177 u178 u179 u180 u181 u182 u183 u184 u185 u186 u187 u188 u189 u190 u191 u192 u193 u194 u195 u196 u197 u198 u199 u200 u201 u202 u203 u204 u205 u206 u207 u208 u209 u210 i hi2 HBR hlt
          exact hCut0.out
        · rename_i zcutG0_ zcutG1_ zcutG2_ zcutG3_ zcutG4_ zcutG5_
          revert A c l who w k1 PA HPO HSO hpl HPA HR HC HM HWHO hl4 zcutA0_ w1 w2 w3 Aa ca B3 RA zcutA1_ zcutG0_ u8 u9 u26 u27 u28 u29 u30 u31 u32 u33 u34 u35 u36 u37 u38 u39 u40 u41 u42 u43 u44 u45 u46 u47 u48 u49 u50 u51 u52 u53 u54 u55 u56 u57 u58 u59 u60 u61 u62 u63 u64 u65 u66 u67 u68 u69 u70 u71 u72 u73 u74 u75 u76 u77 u78 u79 u80 u81 u82 u83 u84 u85 u86 u87 u88 u89 u90 u91 u92 u93 u94 u95 u96 u97 u98 u99 u100 u101 u102 u103 u104 u105 u106 u107 u108 u109 u110 u111 u112 u113 u114 u115 zcutE0_ w4 HLN HLM zcutE1_ zcutE2_ zcutE3_ w6 ga gs zcutE4_ Ar cr B6 CA6 ZX HCA S36 K47 u13 u121 u122 u123 u124 u125 u126 u127 u128 u129 u130 u131 u132 u133 u134 u135 u136 u137 u138 u139 u140 u141 u142 u143 u144 u145 u146 u147 u148 u149 u150 u151 u152 hi w7 HFO B7 PB HCP CA7 hlenAB HREV zcutG1_ zcutG2_ zcutG3_ w9 Ab cb B9 CA9 CB zcutG4_ zcutG5_ wr u4 u16 u17 u163 u164 u165 u166 u167 u168 u169 u170 u171 u172 u173 u174 u175 u176 u177 u178 u179 u180 u181 u182 u183 u184 u185 u186 u187 u188 u189 u190 u191 u192 u193 u194 u195 u196 u197 u198 u199 u200 u201 u202 u203 u204 u205 u206 u207 u208 u209 u210 i hi2 HBR hlt
          exact hCut1.out
end Go.Proofs.Ytokbonceeglciaa.Bk
end
section
namespace Go.Proofs.Ytokbonceeglciaa.Bk
open Go.RowKit Go.Proofs.YtokbonceeglciaaW.PrintWords Go.Proofs.YtokbonceeglciaaW.PrintLast Go.Proofs.YtokbonceeglciaaW.PrintMore Go.Proofs.Ytokbonceeglciaa.Print Go.Proofs.Ytokbonceeglciaa.Given
set_option linter.unusedVariables false
set_option linter.unusedSimpArgs false
set_option maxRecDepth 100000 in
set_option maxHeartbeats 16000000 in
theorem cutH : cutG.1 := by
  intro A c l who w k1 PA HPO HSO hpl HPA HR HC HM HWHO hl4 zcutA0_ w1 w2 w3 Aa ca B3 RA zcutA1_ zcutG0_ u8 u9 u26 u27 u28 u29 u30 u31 u32 u33 u34 u35 u36 u37 u38 u39 u40 u41 u42 u43 u44 u45 u46 u47 u48 u49 u50 u51 u52 u53 u54 u55 u56 u57 u58 u59 u60 u61 u62 u63 u64 u65 u66 u67 u68 u69 u70 u71 u72 u73 u74 u75 u76 u77 u78 u79 u80 u81 u82 u83 u84 u85 u86 u87 u88 u89 u90 u91 u92 u93 u94 u95 u96 u97 u98 u99 u100 u101 u102 u103 u104 u105 u106 u107 u108 u109 u110 u111 u112 u113 u114 u115 zcutE0_ w4 HLN HLM zcutE1_ zcutE2_ zcutE3_ w6 ga gs zcutE4_ Ar cr B6 CA6 ZX HCA S36 K47 u13 u121 u122 u123 u124 u125 u126 u127 u128 u129 u130 u131 u132 u133 u134 u135 u136 u137 u138 u139 u140 u141 u142 u143 u144 u145 u146 u147 u148 u149 u150 u151 u152 hi w7 HFO B7 PB HCP CA7 hlenAB HREV zcutG1_ zcutG2_ zcutG3_ w9 Ab cb B9 CA9 CB zcutG4_ zcutG5_ wr u4 u16 u17 u163 u164 u165 u166 u167 u168 u169 u170 u171 u172 u173 u174 u175 u176 u177 u178 u179 u180 u181 u182 u183 u184 u185 u186 u187 u188 u189 u190 u191 u192 u193 u194 u195 u196 u197 u198 u199 u200 u201 u202 u203 u204 u205 u206 u207 u208 u209 u210 i hi2 HBR hlt
  obtain ⟨y, hy⟩ : ∃ y, PB[i]? = some y := ⟨_, List.getElem?_eq_getElem (by omega)⟩
  obtain ⟨bd, e, hcl⟩ := cells47 CB.out.2.2 i y hy
  cases e
  obtain ⟨k0, hk0⟩ := List.mem_iff_getElem?.1 (HREV.out y (List.mem_of_getElem? hy))
  have HK0 := Aside0.mk hk0
  have hk0l := (List.getElem?_eq_some_iff.1 hk0).1
  obtain ⟨q0, q1, q2, q3, q4⟩ := y
  have HCL := Aside0.mk hcl
  dsimp only at HCL
  clear hcl hy hk0
  go_wp2_with (fail)
  go_loopw [16, 17] (fun v16 v17 wr => ∃ (k : Nat) (b : Bool), v17 = .int .i64 k ∧ v16 = .bool b ∧ k ≤ PA.length ∧ Aside0 (k0 < k → b = true) ∧ Aside0 (Below w9.heap.size w9 wr)) (fun _ v17 _ => PA.length - (intOf v17).toNat)
  case atStart => exact ⟨0, false, rfl, rfl, by omega, ⟨by omega⟩, HBR⟩
  case round =>
    clear HBR
    obtain ⟨k, b, rfl, rfl, hk, HKB, HBR⟩ := hrel
    obtain ⟨wo, rfl⟩ : ∃ wo : World, wo = wr := ⟨_, rfl⟩
    by_cases hkl : k < PA.length
    · cases b with
      | true =>
        go_upto_region 32 with (fail)
        go_quiet (fail)
        go_wp2_with (fail)
        go_roundw
        case rel => exact ⟨k + 1, true, by go_num, rfl, by omega, ⟨fun _ => rfl⟩, ⟨pw_below_drewN HBR.out _⟩⟩
        case measure => simp [intOf]; omega
      | false =>
        obtain ⟨t, ht⟩ : ∃ t, PA[k]? = some t := ⟨_, List.getElem?_eq_getElem hkl⟩
        obtain ⟨ad, e, hcl⟩ := cells47 CA9.out k t ht
        cases e
        obtain ⟨y0, y1, y2, y3, y4⟩ := HCL.out _ HBR.out
        by_cases hkk : k = k0
        · subst hkk
          have ht2 : t = ⟨q2, q3, q0, q1, q4⟩ := by
            have := HK0.out
            rw [ht] at this
            injection this
          subst ht2
          obtain ⟨x0, x1, x2, x3, x4⟩ := hcl _ HBR.out
          dsimp only at x0 x1 x2 x3 x4
          clear hcl ht
          go_upto_region 32 with (fail)
          go_quiet (fail)
          go_wp2_with (fail)
          go_roundw
          case rel => exact ⟨k + 1, true, by go_num, by simp, by omega, ⟨fun _ => rfl⟩, ⟨pw_below_drewN HBR.out _⟩⟩
          case measure => simp [intOf]; omega
        · have HKK := Aside0.mk hkk
          obtain ⟨t0, t1, t2, t3, t4⟩ := t
          obtain ⟨x0, x1, x2, x3, x4⟩ := hcl _ HBR.out
          dsimp only at x0 x1 x2 x3 x4
          clear hcl ht hkk
          by_cases d0 : t0 = q2
          case neg =>
            have e0 : (t0 == q2) = false := beq_eq_false_iff_ne.2 d0
            clear d0
            go_upto_region 32 with (fail)
            go_quiet (fail)
            go_wp2_with (fail)
            go_roundw
            case rel => exact ⟨k + 1, false, by go_num, rfl, by omega, ⟨fun h => absurd (HKB.out (by have := HKK.out; omega)) (by simp)⟩, ⟨pw_below_drewN HBR.out _⟩⟩
            case measure => simp [intOf]; omega
          subst d0
          by_cases d1 : t1 = q3
          case neg =>
            have e1 : (t1 == q3) = false := beq_eq_false_iff_ne.2 d1
            clear d1
            go_upto_region 32 with (fail)
            go_quiet (fail)
            go_wp2_with (fail)
            go_roundw
            case rel => exact ⟨k + 1, false, by go_num, rfl, by omega, ⟨fun h => absurd (HKB.out (by have := HKK.out; omega)) (by simp)⟩, ⟨pw_below_drewN HBR.out _⟩⟩
            case measure => simp [intOf]; omega
          subst d1
          by_cases d2 : t2 = q0
          case neg =>
            have e2 : (t2 == q0) = false := beq_eq_false_iff_ne.2 d2
            clear d2
            go_upto_region 32 with (fail)
            go_quiet (fail)
            go_wp2_with (fail)
            go_roundw
            case rel => exact ⟨k + 1, false, by go_num, rfl, by omega, ⟨fun h => absurd (HKB.out (by have := HKK.out; omega)) (by simp)⟩, ⟨pw_below_drewN HBR.out _⟩⟩
            case measure => simp [intOf]; omega
          subst d2
          by_cases d3 : t3 = q1
          case neg =>
            have e3 : (t3 == q1) = false := beq_eq_false_iff_ne.2 d3
            clear d3
            go_upto_region 32 with (fail)
            go_quiet (fail)
            go_wp2_with (fail)
            go_roundw
            case rel => exact ⟨k + 1, false, by go_num, rfl, by omega, ⟨fun h => absurd (HKB.out (by have := HKK.out; omega)) (by simp)⟩, ⟨pw_below_drewN HBR.out _⟩⟩
            case measure => simp [intOf]; omega
          subst d3
          by_cases d4 : t4 = q4
          case neg =>
            have e4 : (t4 == q4) = false := beq_eq_false_iff_ne.2 d4
            clear d4
            go_upto_region 32 with (fail)
            go_quiet (fail)
            go_wp2_with (fail)
            go_roundw
            case rel => exact ⟨k + 1, false, by go_num, rfl, by omega, ⟨fun h => absurd (HKB.out (by have := HKK.out; omega)) (by simp)⟩, ⟨pw_below_drewN HBR.out _⟩⟩
            case measure => simp [intOf]; omega
          subst d4
          go_upto_region 32 with (fail)
          go_quiet (fail)
          go_wp2_with (fail)
          go_roundw
          case rel => exact ⟨k + 1, true, by go_num, by simp, by omega, ⟨fun _ => rfl⟩, ⟨pw_below_drewN HBR.out _⟩⟩
          case measure => simp [intOf]; omega
    · obtain rfl : k = PA.length := by omega
      have hb := HKB.out hk0l
      subst hb
      go_wp2_with (fail)
      go_roundw
      case rel => exact ⟨i + 1, by go_num, by omega, HBR⟩
      case measure => simp [intOf]; omega
end Go.Proofs.Ytokbonceeglciaa.Bk
end
section
namespace Go.Proofs.Ytokbonceeglciaa.Bk
open Go.RowKit Go.Proofs.YtokbonceeglciaaW.PrintWords Go.Proofs.YtokbonceeglciaaW.PrintLast Go.Proofs.YtokbonceeglciaaW.PrintMore Go.Proofs.Ytokbonceeglciaa.Print Go.Proofs.Ytokbonceeglciaa.Given
set_option linter.unusedVariables false
set_option linter.unusedSimpArgs false
set_option maxRecDepth 100000 in
set_option maxHeartbeats 16000000 in
noncomputable def cutI : PSigma fun P0 : Prop => Aside0 P0 → cutG.2.1 := by
  apply PSigma.mk
  ·
    intro hCut0
    intro A c l who w k1 PA HPO HSO hpl HPA HR HC HM HWHO hl4 zcutA0_ w1 w2 w3 Aa ca B3 RA zcutA1_ zcutG0_ u8 u9 u26 u27 u28 u29 u30 u31 u32 u33 u34 u35 u36 u37 u38 u39 u40 u41 u42 u43 u44 u45 u46 u47 u48 u49 u50 u51 u52 u53 u54 u55 u56 u57 u58 u59 u60 u61 u62 u63 u64 u65 u66 u67 u68 u69 u70 u71 u72 u73 u74 u75 u76 u77 u78 u79 u80 u81 u82 u83 u84 u85 u86 u87 u88 u89 u90 u91 u92 u93 u94 u95 u96 u97 u98 u99 u100 u101 u102 u103 u104 u105 u106 u107 u108 u109 u110 u111 u112 u113 u114 u115 zcutE0_ w4 HLN HLM zcutE1_ zcutE2_ zcutE3_ w6 ga gs zcutE4_ Ar cr B6 CA6 ZX HCA S36 K47 u13 u121 u122 u123 u124 u125 u126 u127 u128 u129 u130 u131 u132 u133 u134 u135 u136 u137 u138 u139 u140 u141 u142 u143 u144 u145 u146 u147 u148 u149 u150 u151 u152 hi w7 HFO B7 PB HCP CA7 hlenAB HREV zcutG1_ zcutG2_ zcutG3_ w9 Ab cb B9 CA9 CB zcutG4_ zcutG5_ wr u4 u16 u17 u163 u164 u165 u166 u167 u168 u169 u170 u171 u172 u173 u174 u175 u176 u177 u178 u179 u180 u181 u182 u183 u184 u185 u186 u187 u188 u189 u190 u191 u192 u193 u194 u195 u196 u197 u198 u199 u200 u201 u202 u203 u204 u205 u206 u207 u208 u209 u210 i hi2 HBR hlt
    obtain rfl : i = PA.length := by omega
    obtain ⟨wz, rfl⟩ : ∃ wz : World, wz = wr := ⟨_, rfl⟩
    have BZ : Aside0 (Below w.heap.size w wz) := ⟨B9.out.trans (HBR.out.mono B9.out.size)⟩
    have CAZ := Aside0.mk (Kd.C_below CA9.out HBR.out)
    clear CA9 CB CA7 HBR B9 HREV hlt
    by_cases hl0 : l.length = 0
    · have hpa : PA.length = 0 := by
        have h := HPA.out
        rw [List.eq_nil_of_length_eq_zero hl0] at h
        rw [h]
        rfl
      have e1 : ((l.length : Int) == 0) = true := beq_iff_eq.2 (by omega)
      have e2 : (l.length == 0) = true := beq_iff_eq.2 hl0
      have e3 : ((PA.length : Int) == 0) = true := beq_iff_eq.2 (by omega)
      have e4 : (PA.length == 0) = true := beq_iff_eq.2 hpa
      go_wp2_with (fail)
      go_returns
      exact ⟨rfl, BZ.out⟩
    · have e1 : ((l.length : Int) == 0) = false := beq_eq_false_iff_ne.2 (by omega)
      have e2 : (l.length == 0) = false := beq_eq_false_iff_ne.2 hl0
      go_upto_if 221 with (fail)
      go_cut [1] (fun v1 wc => ∃ z : Int, v1 = .int .i64 z ∧ Aside0 (0 ≤ z ∧ z ≤ 9223372036854775807) ∧ Aside0 (Below wz.heap.size wz wc))
      case first =>
        have hw0 := HWHO.out
        by_cases h0 : who < 0
        · have h0' : decide (who < 0) = true := decide_eq_true h0
          have hr1 : IntKind.i64.wrap (who + 1) = who + 1 := Go.IntWalk.i64_in _ (by omega)
          have hr2 : IntKind.i64.wrap (-(who + 1)) = -(who + 1) := Go.IntWalk.i64_in _ (by omega)
          go_wp2_with (fail)
          go_meet
          case rel => exact ⟨-(who + 1), by go_num, ⟨by omega⟩, ⟨Below.refl _ _⟩⟩
        · have h0' : decide (who < 0) = false := decide_eq_false h0
          go_wp2_with (fail)
          go_meet
          case rel => exact ⟨who, rfl, ⟨by omega⟩, ⟨Below.refl _ _⟩⟩
      case rest =>
        obtain ⟨z, rfl, hz, HBC⟩ := hcut
        obtain ⟨m, hml, hmod⟩ : ∃ m : Nat, m < l.length ∧ Int.tmod z (l.length : Int) = (m : Int) := ⟨(z % (l.length : Int)).toNat, by have := Int.emod_lt_of_pos z (show (0 : Int) < (l.length : Int) by omega); omega, by rw [Int.tmod_eq_emod_of_nonneg hz.out.1]; have := Int.emod_nonneg z (show (l.length : Int) ≠ 0 by omega); omega⟩
        have hne0 : ¬ (l.length : Int) = 0 := by omega
        have hwm : IntKind.i64.wrap (m : Int) = (m : Int) := Go.IntWalk.i64_in _ (by omega)
        have hzw : IntKind.i64.wrap z = z := Go.IntWalk.i64_in _ (by have := hz.out; omega)
        have hw1 : IntKind.i64.wrap ((m : Int) + 1) = (m : Int) + 1 := Go.IntWalk.i64_in _ (by omega)
        obtain ⟨i22, hi22, _, hs22, _⟩ := info_parts info38
        have hcu1 : ∀ W : World, (Instr.slice 22 (.slice A l.length c) none (some (.int .i64 (m : Int))) none).run Try.prog W = .ok (.slice A m c) W := fun W => by
          have h := cut_to (P := Try.prog) 22 38 .i64 Try.underlying22 hi22 A l.length c (m : Int) (by omega) (by omega) HC.out W
          rwa [Int.toNat_natCast] at h
        obtain ⟨A2, hA2⟩ : ∃ A2 : Option Addr, A2 = (if c = m + 1 then A else A.map (·.add ((m + 1) * 2))) := ⟨_, rfl⟩
        have hcu2 : ∀ W : World, (Instr.slice 22 (.slice A l.length c) (some (.int .i64 ((m : Int) + 1))) none none).run Try.prog W = .ok (.slice A2 (l.length - (m + 1)) (c - (m + 1))) W := fun W => by
          have h := cut_from (P := Try.prog) 22 38 .i64 Try.underlying22 hi22 2 hs22 A l.length c ((m : Int) + 1) (by omega) (by omega) W
          rw [show ((m : Int) + 1).toNat = m + 1 by omega] at h
          rw [hA2]
          exact h
        have BC : Aside0 (Below w.heap.size w wc) := ⟨BZ.out.trans (HBC.out.mono BZ.out.size)⟩
        have BD : Aside0 (Below w.heap.size w wc.drew) := ⟨below_drew BC.out⟩
        have hC1 : Kd.C k38 wc.drew A m (l.take m) := by
          have h := Kd.C_take (Kd.C_below HR.out BD.out) (show m ≤ l.length by omega)
          rwa [List.length_take, Nat.min_eq_left (by omega)] at h
        have hC2 : Kd.C k38 wc.drew A2 (l.length - (m + 1)) (l.drop (m + 1)) := by
          have h := Kd.C_drop (c := c) (Kd.C_below HR.out BD.out) (show m + 1 ≤ l.length by omega) HC.out
          rw [List.length_drop] at h
          rw [hA2]
          exact h
        have HF1 := Aside0.mk (Kd.C_F heap38 hC1)
        have HF2 := Aside0.mk (Kd.C_F heap38 hC2)
        have CAD := Aside0.mk (Kd.C_below CAZ.out (below_drew HBC.out))
        obtain ⟨x, hx⟩ : ∃ x, l[m]? = some x := ⟨_, List.getElem?_eq_getElem hml⟩
        have HX := Aside0.mk hx
        have HML := Aside0.mk hml
        clear hC1 hC2 hA2 hx hi22 hs22 BC CAZ
        go_upto_region 40 with (fail)
        refine start_ (n := 11) (S := fun w' => True) (ds := []) #[false, false, false, false, false, false, false, false, false, false, false] (by kernel_rfl) rfl rfl ⟨⟩ (fun hHeld => ?_)
        refine with_tabW l40tab l40bits (fun HT_ HW_ => ?_)
        generalize wc.drew = wd at BD HF1 HF2 CAD hHeld ⊢
        refine pure_ (i := 1) (N := some 230) (v := ?_) (a' := ?_) #[false, true, false, false, false, false, false, false, false, false, false] rfl rfl (any_of HT_.out (by kernel_rfl)) (fun _ _ _ h => h) (Or.inl ⟨by rfl, ?_⟩) ?_ ?_
        rotate_left
        · intro w'
          go_simp
          with_reducible rfl
        rotate_left
        · simp only [Act.put, List.setIfInBounds_toArray, List.set_cons_zero, List.set_cons_succ, i64_w, i32_w]
          rfl
        refine pure_ (i := 2) (N := some 231) (v := ?_) (a' := ?_) #[false, true, true, false, false, false, false, false, false, false, false] rfl rfl (any_of HT_.out (by kernel_rfl)) (fun _ _ _ h => h) (Or.inl ⟨by rfl, ?_⟩) ?_ ?_
        rotate_left
        · intro w'
          go_simp
          with_reducible rfl
        rotate_left
        · simp only [Act.put, List.setIfInBounds_toArray, List.set_cons_zero, List.set_cons_succ, i64_w, i32_w]
          rfl
        refine pure_ (i := 3) (N := some 232) (v := ?_) (a' := ?_) #[false, true, true, true, false, false, false, false, false, false, false] rfl rfl (any_of HT_.out (by kernel_rfl)) (fun _ _ _ h => h) (Or.inl ⟨by rfl, ?_⟩) ?_ ?_
        rotate_left
        · intro w'
          go_simp
          with_reducible rfl
        rotate_left
        · simp only [Act.put, List.setIfInBounds_toArray, List.set_cons_zero, List.set_cons_succ, i64_w, i32_w]
          rfl
        refine pure_ (i := 5) (N := some 234) (v := ?_) (a' := ?_) #[false, true, true, true, false, true, false, false, false, false, false] rfl rfl (any_of HT_.out (by kernel_rfl)) (fun _ _ _ h => h) (Or.inl ⟨by rfl, ?_⟩) ?_ ?_
        rotate_left
        · intro w'
          go_simp
          with_reducible rfl
        rotate_left
        · simp only [Act.put, List.setIfInBounds_toArray, List.set_cons_zero, List.set_cons_succ, i64_w, i32_w]
          rfl
        refine pure_ (i := 6) (N := some 235) (v := ?_) (a' := ?_) #[false, true, true, true, false, true, true, false, false, false, false] rfl rfl (any_of HT_.out (by kernel_rfl)) (fun _ _ _ h => h) (Or.inl ⟨by rfl, ?_⟩) ?_ ?_
        rotate_left
        · intro w'
          go_simp
          with_reducible rfl
        rotate_left
        · simp only [Act.put, List.setIfInBounds_toArray, List.set_cons_zero, List.set_cons_succ, i64_w, i32_w]
          rfl
        refine pure_ (i := 7) (N := some 236) (v := ?_) (a' := ?_) #[false, true, true, true, false, true, true, true, false, false, false] rfl rfl (any_of HT_.out (by kernel_rfl)) (fun _ _ _ h => h) (Or.inl ⟨by rfl, ?_⟩) ?_ ?_
        rotate_left
        · intro w'
          go_simp
          with_reducible rfl
        rotate_left
        · simp only [Act.put, List.setIfInBounds_toArray, List.set_cons_zero, List.set_cons_succ, i64_w, i32_w]
          rfl
        refine pure_ (i := 8) (N := some 237) (v := ?_) (a' := ?_) #[false, true, true, true, false, true, true, true, true, false, false] rfl rfl (any_of HT_.out (by kernel_rfl)) (fun _ _ _ h => h) (Or.inl ⟨by rfl, ?_⟩) ?_ ?_
        rotate_left
        · intro w'
          go_simp
          with_reducible rfl
        rotate_left
        · simp only [Act.put, List.setIfInBounds_toArray, List.set_cons_zero, List.set_cons_succ, i64_w, i32_w]
          rfl
        refine one_ (i := 0) (N := some 229) #[true, true, true, true, false, true, true, true, true, false, false] rfl rfl (one_of HT_.out (by kernel_rfl)) (by decide) (fun K hK => ?_)
        refine Kd.N_lit_step k38 (w0 := wd) wd.heap.size 38 (by rfl) (N' := 229) (by rfl) (xs := ([] : List S38)) (inner := []) (ok := Any) (okp := Any) ?hr (Reps.none _ _) (fun _ hk => trivial) trivial (Below.refl _ _) (Nat.le_refl _) (by simp) ?_
        case hr => first | (go_simp; done) | (go_simp; rfl)
        intro v1 w1 ho hb hg hat
        have HO1 := Aside0.mk ho
        have HB1 := Aside0.mk hb
        have HA1 := Aside0.mk hat
        clear ho hb hg hat
        refine hK.out _ _ ⟨⟩ (fun hHeld => ?_)
        clear hK K
        refine norm_ (a' := ?_) ?_ ?_
        rotate_left
        · show Act.put _ (some 229) _ = _
          simp only [Act.put, List.setIfInBounds_toArray, List.set_cons_zero, List.set_cons_succ, i64_w, i32_w]
          rfl
        refine one_ (i := 4) (N := some 233) #[true, true, true, true, true, true, true, true, true, false, false] rfl rfl (one_of HT_.out (by kernel_rfl)) (by decide) (fun K hK => ?_)
        refine Kd.N_append_rows_step k38 (w0 := wd) wd.heap.size (by rfl) (.tmp 229) (.tmp 232) 22 38 (.agg #[.int .i64 0, .slice none 0 0]) 32 (by rfl) Try.underlying22 info38 (by rfl) (by decide) (by omega) v1 ([] : List S38) (l.take m) A m c Any (fun k => k < wd.heap.size) (by rfl) (by rfl) HO1.out (Kd.F_below HF1.out HB1.out) ?aK (fun _ _ => trivial) HB1.out HB1.out.size ?aL ?_
        case aK =>
          intro k hk
          refine ⟨trivial, fun e => ?_⟩
          obtain ⟨b, hb, hle⟩ := HA1.out
          rw [hb] at e
          injection e with e
          subst e
          exact Nat.lt_irrefl _ (Nat.lt_of_lt_of_le hk hle)
        case aL => (try simp only [List.nil_append, List.length_nil, List.length_take]); omega
        intro v2 w2 ho hb hg hat
        have HO4 := Aside0.mk ho
        have HB4 := Aside0.mk hb
        have HA4 : Aside0 (∃ b, v2.ownBlock = some b ∧ wd.heap.size ≤ b) := ⟨by
          rcases hat with he | ⟨b, hb1, hle⟩
          · rw [he]; exact HA1.out
          · exact ⟨b, hb1, Nat.le_trans HB1.out.size hle⟩⟩
        clear ho hb hg hat
        refine hK.out _ _ ⟨⟩ (fun hHeld => ?_)
        clear hK K
        refine norm_ (a' := ?_) ?_ ?_
        rotate_left
        · show Act.put _ (some 233) _ = _
          simp only [Act.put, List.setIfInBounds_toArray, List.set_cons_zero, List.set_cons_succ, i64_w, i32_w]
          rfl
        refine one_ (i := 9) (N := some 238) #[true, true, true, true, true, true, true, true, true, true, false] rfl rfl (one_of HT_.out (by kernel_rfl)) (by decide) (fun K hK => ?_)
        refine Kd.N_append_rows_step k38 (w0 := wd) wd.heap.size (by rfl) (.tmp 233) (.tmp 237) 22 38 (.agg #[.int .i64 0, .slice none 0 0]) 32 (by rfl) Try.underlying22 info38 (by rfl) (by decide) (by omega) v2 ([] ++ l.take m) (l.drop (m + 1)) A2 (l.length - (m + 1)) (c - (m + 1)) Any (fun k => k < wd.heap.size) (by rfl) (by rfl) HO4.out (Kd.F_below HF2.out HB4.out) ?aK (fun _ _ => trivial) HB4.out HB4.out.size ?aL ?_
        case aK =>
          intro k hk
          refine ⟨trivial, fun e => ?_⟩
          obtain ⟨b, hb, hle⟩ := HA4.out
          rw [hb] at e
          injection e with e
          subst e
          exact Nat.lt_irrefl _ (Nat.lt_of_lt_of_le hk hle)
        case aL => (try simp only [List.nil_append, List.length_nil, List.length_take]); omega
        intro v3 w4 ho hb hg hat
        have HO9 := Aside0.mk ho
        have HB9 := Aside0.mk hb
        have HA9 : Aside0 (∃ b, v3.ownBlock = some b ∧ wd.heap.size ≤ b) := ⟨by
          rcases hat with he | ⟨b, hb1, hle⟩
          · rw [he]; exact HA4.out
          · exact ⟨b, hb1, Nat.le_trans HB4.out.size hle⟩⟩
        clear ho hb hg hat
        refine hK.out _ _ ⟨⟩ (fun hHeld => ?_)
        clear hK K
        refine norm_ (a' := ?_) ?_ ?_
        rotate_left
        · show Act.put _ (some 238) _ = _
          simp only [Act.put, List.setIfInBounds_toArray, List.set_cons_zero, List.set_cons_succ, i64_w, i32_w]
          rfl
        refine pure_ (i := 10) (N := some 18) (v := ?_) (a' := ?_) #[true, true, true, true, true, true, true, true, true, true, true] rfl rfl (any_of HT_.out (by kernel_rfl)) (fun _ _ _ h => h) (Or.inl ⟨by rfl, ?_⟩) ?_ ?_
        rotate_left
        · intro w'
          go_simp
          with_reducible rfl
        rotate_left
        · simp only [Act.put, List.setIfInBounds_toArray, List.set_cons_zero, List.set_cons_succ, i64_w, i32_w]
          rfl
        refine done_ (done_of HT_.out (by kernel_rfl)) ?_
        obtain ⟨LF, hLF⟩ : ∃ LF, LF = l.take m ++ l.drop (m + 1) := ⟨_, rfl⟩
        have hO := HO9.out
        rw [List.nil_append, ← hLF] at hO
        obtain ⟨A3, c3, rfl, hc3, hC3⟩ := Kd.N_reads hO
        have hm0 := HM.out
        have hLFl : LF.length ≤ 4000 := by rw [hLF, List.length_append, List.length_take, List.length_drop]; omega
        have hLFa : arms LF ≤ 4000 := by rw [hLF]; have := arms_leave l m; omega
        obtain ⟨PL, hPL⟩ : ∃ P, P = pairsOf LF := ⟨_, rfl⟩
        have hplL : LF.length + arms LF ≤ 5000 := by
          have h1 := arms_leave l m
          rw [← hLF] at h1
          have h2 : LF.length ≤ l.length := by rw [hLF, List.length_append, List.length_take, List.length_drop]; omega
          omega
        have HPL : Aside0 (post_Pairs.f LF = some PL) := ⟨by unfold post_Pairs.f; rw [if_pos hplL, hPL]⟩
        have hpl2 : PL.length ≤ 16000000 := by
          rw [hPL]
          exact Nat.le_trans (pairsOf_len _) (Nat.mul_le_mul hLFa hLFa)
        obtain ⟨kw, hkw⟩ := without_says PA x.f0 (by omega)
        obtain ⟨WL, hWL⟩ : ∃ W, W = PA.filter (fun y => y.f0 != x.f0 && y.f2 != x.f0) := ⟨_, rfl⟩
        rw [← hWL] at hkw
        obtain ⟨bb, ks, hks, hbb⟩ := same_total PL WL (by omega)
        have HBB : Aside0 (bb = true ∨ PA.length = 0) := ⟨by
          by_cases hr : rightOf l = true
          · left
            refine hbb ?_
            rw [hPL, hWL, hLF, HPA.out]
            exact pairs_leave hr HX.out
          · right
            rw [HPA.out]
            unfold pairsOf
            rw [if_neg hr]
            rfl⟩
        obtain ⟨ad2, A1, c1, rfl, x0, _, _, _⟩ := at_T38 HR.out (m : Int) (by omega) (by omega)
        have hel : rd_T38 l m = x := by
          unfold rd_T38
          rw [Int.toNat_natCast, List.getD_eq_getElem?_getD, HX.out]
          rfl
        rw [hel, Int.toNat_natCast] at x0
        have BW4 : Aside0 (Below w.heap.size w w4) := ⟨BD.out.trans (HB9.out.mono BD.out.size)⟩
        replace x0 := pw_cell_below BW4.out x0
        obtain ⟨id, hid⟩ : ∃ z, z = x.f0 := ⟨_, rfl⟩
        rw [← hid] at x0 hkw
        have CAW := Aside0.mk (Kd.C_below CAD.out HB9.out)
        have HC3 := Aside0.mk hC3
        have HKW := Aside0.mk hkw
        have HKS := Aside0.mk hks
        clear hO hC3 hm0 hLFl hLFa hPL hplL hpl2 hkw hWL hks hbb hel hid HO1 HO4 HO9 HB1 HB4 HA1 HA4 HA9 hLF hHeld
        rename_i zcutI0_ zcutI1_ zcutI2_ zcutI3_ zcutI4_ zcutI5_ zcutI6_ zcutI7_ zcutI8_ zcutI9_ zcutI10_ zcutI11_ zcutI12_ zcutI13_ zcutI14_ zcutI15_ zcutI16_ zcutI17_ zcutI18_ zcutI19_ zcutI20_ zcutI21_ zcutI22_ zcutI23_ zcutI24_ zcutI25_ zcutI26_ zcutI27_ zcutI28_ zcutI29_ zcutI30_ zcutI31_ zcutI32_ zcutI33_ zcutI34_ zcutI35_ zcutI36_ zcutI37_ zcutI38_ zcutI39_ zcutI40_ zcutI41_ zcutI42_ zcutI43_ zcutI44_ zcutI45_ zcutI46_ zcutI47_ zcutI48_ zcutI49_ zcutI50_ zcutI51_ zcutI52_ zcutI53_ zcutI54_ zcutI55_ zcutI56_ zcutI57_ zcutI58_ zcutI59_ zcutI60_ zcutI61_ zcutI62_ zcutI63_ zcutI64_ zcutI65_ zcutI66_ zcutI67_ zcutI68_ zcutI69_ zcutI70_ zcutI71_ zcutI72_ zcutI73_ zcutI74_ zcutI75_ zcutI76_ zcutI77_ zcutI78_ zcutI79_ zcutI80_ zcutI81_ zcutI82_ zcutI83_ zcutI84_ zcutI85_ zcutI86_ zcutI87_ zcutI88_ zcutI89_ zcutI90_ zcutI91_ zcutI92_ zcutI93_ zcutI94_ zcutI95_ zcutI96_ zcutI97_ zcutI98_ zcutI99_ zcutI100_ zcutI101_ zcutI102_ zcutI103_ zcutI104_ zcutI105_ zcutI106_ zcutI107_ zcutI108_ zcutI109_ zcutI110_ zcutI111_ zcutI112_ zcutI113_ zcutI114_ zcutI115_ zcutI116_ zcutI117_ zcutI118_ zcutI119_ zcutI120_ zcutI121_ zcutI122_ zcutI123_ zcutI124_ zcutI125_ zcutI126_ zcutI127_ zcutI128_ zcutI129_ zcutI130_ zcutI131_ zcutI132_ zcutI133_ zcutI134_ zcutI135_ zcutI136_ zcutI137_ zcutI138_ zcutI139_ zcutI140_ zcutI141_ zcutI142_ zcutI143_ zcutI144_ zcutI145_ zcutI146_ zcutI147_ zcutI148_ zcutI149_ zcutI150_ zcutI151_ zcutI152_ zcutI153_ zcutI154_ zcutI155_ zcutI156_ zcutI157_ zcutI158_ zcutI159_ zcutI160_ zcutI161_ zcutI162_ zcutI163_ zcutI164_ zcutI165_ zcutI166_ zcutI167_ zcutI168_ zcutI169_ zcutI170_ zcutI171_ zcutI172_ zcutI173_ zcutI174_ zcutI175_ zcutI176_ zcutI177_ zcutI178_ zcutI179_ zcutI180_ zcutI181_ zcutI182_ zcutI183_ zcutI184_
        revert c l who w k1 PA HPO HSO hpl HPA HC HM HWHO hl4 zcutA0_ zcutI0_ zcutI1_ w3 Aa ca B3 RA zcutA1_ zcutG0_ u8 u9 zcutI2_ zcutI3_ zcutI4_ zcutI5_ zcutI6_ zcutI7_ zcutI8_ zcutI9_ zcutI10_ zcutI11_ zcutI12_ zcutI13_ zcutI14_ zcutI15_ zcutI16_ zcutI17_ zcutI18_ zcutI19_ zcutI20_ zcutI21_ zcutI22_ zcutI23_ zcutI24_ zcutI25_ zcutI26_ zcutI27_ zcutI28_ zcutI29_ zcutI30_ zcutI31_ zcutI32_ zcutI33_ zcutI34_ zcutI35_ zcutI36_ zcutI37_ zcutI38_ zcutI39_ zcutI40_ zcutI41_ zcutI42_ zcutI43_ zcutI44_ zcutI45_ zcutI46_ zcutI47_ zcutI48_ zcutI49_ zcutI50_ zcutI51_ zcutI52_ zcutI53_ zcutI54_ zcutI55_ zcutI56_ zcutI57_ zcutI58_ zcutI59_ zcutI60_ zcutI61_ zcutI62_ zcutI63_ zcutI64_ zcutI65_ zcutI66_ zcutI67_ zcutI68_ zcutI69_ zcutI70_ zcutI71_ zcutI72_ zcutI73_ zcutI74_ zcutI75_ zcutI76_ zcutI77_ zcutI78_ zcutI79_ zcutI80_ zcutI81_ zcutI82_ zcutI83_ zcutI84_ zcutI85_ zcutI86_ zcutI87_ zcutI88_ zcutI89_ zcutI90_ zcutI91_ zcutE0_ zcutI92_ HLN HLM zcutE2_ w6 ga gs zcutE4_ Ar cr B6 CA6 ZX HCA S36 K47 u13 zcutI93_ zcutI94_ zcutI95_ zcutI96_ zcutI97_ zcutI98_ zcutI99_ zcutI100_ zcutI101_ zcutI102_ zcutI103_ zcutI104_ zcutI105_ zcutI106_ zcutI107_ zcutI108_ zcutI109_ zcutI110_ zcutI111_ zcutI112_ zcutI113_ zcutI114_ zcutI115_ zcutI116_ zcutI117_ zcutI118_ zcutI119_ zcutI120_ zcutI121_ zcutI122_ zcutI123_ zcutI124_ hi w7 HFO B7 PB HCP hlenAB zcutG2_ w9 Ab cb zcutG4_ u4 u16 u17 zcutI125_ zcutI126_ zcutI127_ zcutI128_ zcutI129_ zcutI130_ zcutI131_ zcutI132_ zcutI133_ zcutI134_ zcutI135_ zcutI136_ zcutI137_ zcutI138_ zcutI139_ zcutI140_ zcutI141_ zcutI142_ zcutI143_ zcutI144_ zcutI145_ zcutI146_ zcutI147_ zcutI148_ zcutI149_ zcutI150_ zcutI151_ zcutI152_ zcutI153_ zcutI154_ zcutI155_ zcutI156_ zcutI157_ zcutI158_ zcutI159_ zcutI160_ zcutI161_ zcutI162_ zcutI163_ zcutI164_ zcutI165_ zcutI166_ zcutI167_ zcutI168_ zcutI169_ zcutI170_ zcutI171_ zcutI172_ hi2 wz BZ hl0 e1 e2 zcutI173_ wc u20 u21 u22 u23 u24 u25 u26 u27 u28 u29 u30 u31 u32 u33 u34 u35 u36 u37 u38 u39 u40 u41 u42 u43 u44 u45 u46 u47 u48 u49 u50 u51 u52 u53 u54 u55 u56 u57 u58 u59 u60 u61 u62 u63 u64 u65 u66 u67 u68 u69 u70 u71 u72 u73 u74 u75 u76 u77 u78 u79 u80 u81 u82 u83 u84 u85 u86 u87 u88 u89 u90 u91 u92 u93 u94 u95 u96 u97 u98 u99 u100 u101 u102 u103 u104 u105 u106 u107 u108 u109 u110 u111 u112 u113 u114 u115 u116 u117 u118 u119 u120 u121 u122 u123 u124 u125 u126 u127 u128 u129 u130 u131 u132 u133 u134 u135 u136 u137 u138 u139 u140 u141 u142 u143 u144 u145 u146 u147 u148 u149 u150 u151 u152 u153 u154 u155 u156 u157 u158 u159 u160 u161 u162 u163 u164 u165 u166 u167 u168 u169 u170 u171 u172 u173 u174 u175 u176 u177 u178 u179 u180 u181 u182 u183 u184 u185 u186 u187 u188 u189 u190 u191 u192 u193 u194 u195 u196 u197 u198 u199 u200 u201 u202 u203 u204 u205 u206 u207 u208 u209 u210 u211 u212 u213 u214 u215 u216 u217 u218 u219 u220 u221 u222 u223 u224 u225 u226 u227 u228 u229 u230 u231 u232 u233 u234 u235 u236 u237 u238 u239 u240 u241 u242 u243 u244 u245 u246 u247 u248 u249 u250 u251 u252 u253 u254 u255 u256 u257 z hz HBC m hml hmod hne0 hwm hzw hw1 i22 zcutI174_ zcutI175_ A2 x HX HML zcutI176_ zcutI177_ zcutI178_ HT_ HW_ wd BD HF2 CAD v1 w1 zcutI179_ v2 w2 hHeld w4 HB9 LF A3 c3 hc3 PL HPL kw WL bb ks HBB ad2 A1 c1 HR zcutE1_ zcutE3_ zcutG1_ zcutG3_ zcutI180_ zcutI181_ hcu1 hcu2 HF1 zcutI182_ zcutI183_ zcutI184_ BW4 id x0 CAW HC3 HKW HKS
        exact hCut0.out
end Go.Proofs.Ytokbonceeglciaa.Bk
end
