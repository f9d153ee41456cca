/- Lemmas for the claim (what no proof of it names is left out). -/
import Derived.Test.YtiapfhlipoomaaaDoorTsA
import Derived.Test.YtiapfhlipoomaaaDoorTsC
import Derived.Test.YtiapfhlipoomaaaDoorTsD
import Derived.Test.YtiapfhlipoomaaaDoorTsB
import Derived.Laws.CopyOwn
import Derived.Deep.RegionHeld3
import Derived.Deep.Slices
import Derived.ChangeArms
import Derived.DataReads
import Derived.SizedLaws
import Derived.Below
section
namespace Go.Proofs.YtiapfhlipoomaaaDoor.Print
open Go.RowKit
open Go.RowKit Go.Proofs.YtiapfhlipoomaaaDoorW.PrintWords Go.Proofs.YtiapfhlipoomaaaDoorW.PrintLast Go.Proofs.YtiapfhlipoomaaaDoorW.PrintMore
attribute [local go_sem] max2_int min2_int max_two min_two max_three min_three max_four min_four
set_option linter.unusedVariables false
set_option linter.unusedSimpArgs false
mutual
def squintref18_number.j0 : Nat → ByteArray → Int → Bool → Option (Int × Bool)
  | 0, _, _, _ => none
  | k + 1, x0, x4, x14 => if x14 = true then (squintref18_number.j1 k x0 1) else (squintref18_number.j1 k x0 x4)
def squintref18_number.j1 : Nat → ByteArray → Int → Option (Int × Bool)
  | 0, _, _ => none
  | k + 1, x0, x4 => if (x0.size : Int) = x4 then (squintref18_number.j2 k x0 x4 true) else (squintref18_number.j2 k x0 x4 (decide ((x0.size : Int) > 20)))
def squintref18_number.j2 : Nat → ByteArray → Int → Bool → Option (Int × Bool)
  | 0, _, _, _ => none
  | k + 1, x0, x4, x23 => if x23 = true then (some (0, false)) else (squintref18_number.l0 k x0 x4 0 x4)
def squintref18_number.l0 : Nat → ByteArray → Int → Int → Int → Option (Int × Bool)
  | 0, _, _, _, _ => none
  | k + 1, x0, x4, x5, x6 => if x6 < (x0.size : Int) then (if 0 ≤ x6 then (if (bt x0 x6) < 48 then (some (0, false)) else (if (bt x0 x6) > 57 then (some (0, false)) else (squintref18_number.l0 k x0 x4 (wrap64 ((wrap64 (x5 * 10)) - (((bt x0 x6) - 48) % 256))) (wrap64 (x6 + 1))))) else (none)) else (if x4 = 0 then ((squintref18_digits.f k (wrap64 (-x5))).bind fun t282 => (some (wrap64 (-x5), (t282.toList == x0.toList)))) else ((squintref18_digits.f k x5).bind fun t283 => (some (x5, (t283.toList == x0.toList)))))
end
def squintref18_number.f (k : Nat) (a0 : ByteArray) : Option (Int × Bool) := if (a0.size : Int) > 0 then (if 0 < (a0.size : Int) then (squintref18_number.j0 k a0 0 ((bt a0 0) == 45)) else (none)) else (squintref18_number.j0 k a0 0 false)
set_option maxHeartbeats 8000000 in
set_option maxRecDepth 100000 in
theorem squintref18_number.calls (k : Nat) (a0 : ByteArray) (r1 : Int) (r2 : Bool) (w : World) (h : squintref18_number.f k a0 = some (r1, r2)) :
    Calls Tryd.prog 51 #[.string a0] w fun e w' => e = .returned (.tuple #[.int .i64 r1, .bool r2]) ∧ Below w.heap.size w w' := by
  have HB := Aside0.mk (Below.refl w.heap.size w)
  have H : (if (a0.size : Int) > 0 then (if 0 < (a0.size : Int) then (squintref18_number.j0 k a0 0 ((bt a0 0) == 45)) else (none)) else (squintref18_number.j0 k a0 0 false)) = some (r1, r2) := h
  clear h
  have HC2 := Aside0.mk H
  clear H
  go_enter Tryd.func51, Tryd.ntmps51
  go_upto_region 2 with (fail)
  go_cut [14] (fun v14 wc => ∃ (kq : Nat) (x14_1 : Bool), v14 = .bool x14_1 ∧ Aside0 (squintref18_number.j0 kq a0 0 x14_1 = some (r1, r2)) ∧ Aside0 (kq ≤ k) ∧ Aside0 (Below w.heap.size w wc))
  case first =>
    have H := HC2.out
    clear HC2
    by_cases c3 : (a0.size : Int) > 0
    · rw [if_pos c3] at H
      have c3b0 : decide (0 < (a0.size : Int)) = true := decide_eq_true c3
      have c3b1 : decide (0 < a0.size) = true := decide_eq_true (by omega)
      clear c3
      (first | rw [c3b0] | (simp only [i64_w, i32_w]; rw [c3b0]) | skip)
      by_cases c4 : 0 < (a0.size : Int)
      · rw [if_pos c4] at H
        have c4b0 : decide (0 < (a0.size : Int)) = true := decide_eq_true c4
        have c4b1 : decide (0 < a0.size) = true := decide_eq_true (by omega)
        clear c4
        have H' := Aside0.mk H
        clear H
        have p5 : 0 ≤ (0 : Int) := (by omega)
        have q5 : 0 < a0.size := (by have : (0 : Int) < (a0.size : Int) := of_decide_eq_true (by first | (with_reducible assumption) | assumption); omega)
        have hx5 : ∀ h : 0 < a0.size, ((a0[0]'h).toNat : Int) = bt a0 0 := bt_at a0 0
        clear p5
        have qi5 : (0 < (a0.size : Int)) = True := eq_true (of_decide_eq_true (by first | (with_reducible assumption) | assumption))
        replace q5 := eq_true q5
        go_wp2
        go_meet
        case rel => exact ⟨_, (((bt a0 0) == 45)), (by first | rfl | (simp; done) | (simp [*]; done)), H', ⟨by first | omega | exact Nat.le_refl _⟩, ⟨by repeat (first | (with_reducible first | exact HB.out | apply below_alloc | apply pw_below_drewN | apply below_drew1) | exact HB.out)⟩⟩
      · rw [if_neg c4] at H
        exact absurd H (by simp)
    · rw [if_neg c3] at H
      have c3b0 : decide (0 < (a0.size : Int)) = false := decide_eq_false c3
      have c3b1 : decide (0 < a0.size) = false := decide_eq_false (by omega)
      clear c3
      (first | rw [c3b0] | (simp only [i64_w, i32_w]; rw [c3b0]) | skip)
      have H' := Aside0.mk H
      clear H
      go_wp2
      go_meet
      case rel => exact ⟨_, (false), (by first | rfl | (simp; done) | (simp [*]; done)), H', ⟨by first | omega | exact Nat.le_refl _⟩, ⟨by repeat (first | (with_reducible first | exact HB.out | apply below_alloc | apply pw_below_drewN | apply below_drew1) | exact HB.out)⟩⟩
  case rest =>
    clear HC2
    try clear p2
    try clear c3
    try clear c3b0
    try clear c3b1
    try clear c4
    try clear c4b0
    try clear c4b1
    try clear c5
    try clear p5
    try clear q5
    try clear hx5
    try clear qi5
    try clear p5
    try clear q5
    obtain ⟨kq, x14_1, rfl, HA, HJ1, HB⟩ := hcut
    cases kq with
    | zero => exact absurd HA.out (by simp [squintref18_number.j0])
    | succ kj1 =>
      have H := HA.out
      clear HA
      simp only [squintref18_number.j0] at H
      have HC6 := Aside0.mk H
      clear H
      go_upto_if 14 with (fail)
      go_cut [4] (fun v4 wc => ∃ (kq : Nat) (x4_5 : Int), v4 = .int .i64 x4_5 ∧ Aside0 (squintref18_number.j1 kq a0 x4_5 = some (r1, r2)) ∧ Aside0 (kq ≤ kj1) ∧ Aside0 (Below w.heap.size w wc))
      case first =>
        have H := HC6.out
        clear HC6
        by_cases c7 : x14_1 = true
        · subst c7
          have H1 : (squintref18_number.j1 kj1 a0 1) = some (r1, r2) := by rw [if_pos rfl] at H; exact H
          clear H
          have H := H1
          clear H1
          have H' := Aside0.mk H
          clear H
          go_wp2
          go_meet
          case rel => exact ⟨_, (1), (by first | rfl | (simp; done) | (simp [*]; done)), H', ⟨by have := HJ1.out; first | omega | exact Nat.le_refl _⟩, ⟨by repeat (first | (with_reducible first | exact HB.out | apply below_alloc | apply pw_below_drewN | apply below_drew1) | exact HB.out)⟩⟩
        · replace c7 := Bool.eq_false_iff.mpr c7
          subst c7
          have H1 : (squintref18_number.j1 kj1 a0 0) = some (r1, r2) := by rw [if_neg (show ¬ (false = true) by decide)] at H; exact H
          clear H
          have H := H1
          clear H1
          have H' := Aside0.mk H
          clear H
          go_wp2
          go_meet
          case rel => exact ⟨_, (0), (by first | rfl | (simp; done) | (simp [*]; done)), H', ⟨by have := HJ1.out; first | omega | exact Nat.le_refl _⟩, ⟨by repeat (first | (with_reducible first | exact HB.out | apply below_alloc | apply pw_below_drewN | apply below_drew1) | exact HB.out)⟩⟩
      case rest =>
        clear HC6
        try clear p2
        try clear c3
        try clear c3b0
        try clear c3b1
        try clear c4
        try clear c4b0
        try clear c4b1
        try clear c5
        try clear p5
        try clear q5
        try clear hx5
        try clear qi5
        try clear c7
        try clear p2
        try clear p5
        try clear q5
        obtain ⟨kq, x4_5, rfl, HA, HJ5, HB⟩ := hcut
        cases kq with
        | zero => exact absurd HA.out (by simp [squintref18_number.j1])
        | succ kj5 =>
          have H := HA.out
          clear HA
          simp only [squintref18_number.j1] at H
          have HC8 := Aside0.mk H
          clear H
          go_upto_region 4 with (fail)
          go_cut [23] (fun v23 wc => ∃ (kq : Nat) (x23_7 : Bool), v23 = .bool x23_7 ∧ Aside0 (squintref18_number.j2 kq a0 x4_5 x23_7 = some (r1, r2)) ∧ Aside0 (kq ≤ kj5) ∧ Aside0 (Below w.heap.size w wc))
          case first =>
            have H := HC8.out
            clear HC8
            by_cases c9 : (a0.size : Int) = x4_5
            · rw [if_pos c9] at H
              have c9b0 : ((a0.size : Int) == x4_5) = true := beq_iff_eq.mpr c9
              have c9b1 : ((a0.size : Int) != x4_5) = false := bne_eq_false_iff_eq.mpr c9
              clear c9
              (first | rw [c9b0] | (simp only [i64_w, i32_w]; rw [c9b0]) | skip)
              have H' := Aside0.mk H
              clear H
              go_wp2
              go_meet
              case rel => exact ⟨_, (true), (by first | rfl | (simp; done) | (simp [*]; done)), H', ⟨by have := HJ1.out; have := HJ5.out; first | omega | exact Nat.le_refl _⟩, ⟨by repeat (first | (with_reducible first | exact HB.out | apply below_alloc | apply pw_below_drewN | apply below_drew1) | exact HB.out)⟩⟩
            · rw [if_neg c9] at H
              have c9b0 : ((a0.size : Int) == x4_5) = false := beq_eq_false_iff_ne.mpr c9
              have c9b1 : ((a0.size : Int) != x4_5) = true := bne_iff_ne.mpr c9
              (first | rw [c9b0] | (simp only [i64_w, i32_w]; rw [c9b0]) | skip)
              have H' := Aside0.mk H
              clear H
              go_wp2
              go_meet
              case rel => exact ⟨_, (decide ((a0.size : Int) > 20)), (by first | rfl | (simp; done) | (simp [*]; done)), H', ⟨by have := HJ1.out; have := HJ5.out; first | omega | exact Nat.le_refl _⟩, ⟨by repeat (first | (with_reducible first | exact HB.out | apply below_alloc | apply pw_below_drewN | apply below_drew1) | exact HB.out)⟩⟩
          case rest =>
            clear HC8
            try clear p2
            try clear c3
            try clear c3b0
            try clear c3b1
            try clear c4
            try clear c4b0
            try clear c4b1
            try clear c5
            try clear p5
            try clear q5
            try clear hx5
            try clear qi5
            try clear c7
            try clear c9
            try clear c9b0
            try clear c9b1
            try clear p2
            try clear p5
            try clear q5
            obtain ⟨kq, x23_7, rfl, HA, HJ7, HB⟩ := hcut
            cases kq with
            | zero => exact absurd HA.out (by simp [squintref18_number.j2])
            | succ kj7 =>
              have H := HA.out
              clear HA
              simp only [squintref18_number.j2] at H
              by_cases c10 : x23_7 = true
              · subst c10
                have H1 : (some (0, false)) = some (r1, r2) := by rw [if_pos rfl] at H; exact H
                clear H
                have H := H1
                clear H1
                simp only [Option.some.injEq, Prod.mk.injEq] at H
                obtain ⟨rfl, rfl⟩ := H
                go_wp2
                go_ret2
                exact ⟨by first | rfl | (simp [errW_none, errW_some] <;> rfl) | (simp [*, errW_none, errW_some] <;> rfl), by repeat (first | (with_reducible first | exact HB.out | apply below_alloc | apply pw_below_drewN | apply below_drew1) | exact HB.out)⟩
              · replace c10 := Bool.eq_false_iff.mpr c10
                subst c10
                have H1 : (squintref18_number.l0 kj7 a0 x4_5 0 x4_5) = some (r1, r2) := by rw [if_neg (show ¬ (false = true) by decide)] at H; exact H
                clear H
                have H := H1
                clear H1
                have H' := Aside0.mk H
                clear H
                go_wp2
                go_loopg [5, 6] kj7 (fun kq v5 v6 w' => ∃ (x5_4 : Int) (x6_4 : Int), v5 = .int .i64 x5_4 ∧ v6 = .int .i64 x6_4 ∧ Aside0 (squintref18_number.l0 kq a0 x4_5 x5_4 x6_4 = some (r1, r2)) ∧ Aside0 (kq ≤ kj7) ∧ Aside0 (Below w.heap.size w w'))
                case atStart => exact ⟨(0), (x4_5), (by first | rfl | (simp; done) | (simp [*]; done)), (by first | rfl | (simp; done) | (simp [*]; done)), H', ⟨Nat.le_refl _⟩, ⟨by repeat (first | (with_reducible first | exact HB.out | apply below_alloc | apply pw_below_drewN | apply below_drew1) | exact HB.out)⟩⟩
                case round =>
                  clear H'
                  try clear c1
                  try clear p2
                  try clear c3
                  try clear c3b0
                  try clear c3b1
                  try clear c4
                  try clear c4b0
                  try clear c4b1
                  try clear c5
                  try clear p5
                  try clear q5
                  try clear hx5
                  try clear qi5
                  try clear c7
                  try clear c9
                  try clear c9b0
                  try clear c9b1
                  try clear c10
                  try clear p2
                  try clear p5
                  try clear q5
                  obtain ⟨x5_4, x6_4, rfl, rfl, HA, HK4, HB⟩ := hrel
                  cases gk with
                  | zero => exact absurd HA.out (by simp [squintref18_number.l0])
                  | succ k4 =>
                    have H := HA.out
                    clear HA
                    simp only [squintref18_number.l0] at H
                    by_cases c11 : x6_4 < (a0.size : Int)
                    · rw [if_pos c11] at H
                      have c11b0 : decide (x6_4 < (a0.size : Int)) = true := decide_eq_true c11
                      clear c11
                      by_cases c12 : 0 ≤ x6_4
                      · rw [if_pos c12] at H
                        have c12b0 : decide (0 ≤ x6_4) = true := decide_eq_true c12
                        clear c12
                        by_cases c14 : (bt a0 x6_4) < 48
                        · rw [if_pos c14] at H
                          have c14b0 : decide ((bt a0 x6_4) < 48) = true := decide_eq_true c14
                          clear c14
                          simp only [Option.some.injEq, Prod.mk.injEq] at H
                          obtain ⟨rfl, rfl⟩ := H
                          have p13 : 0 ≤ (x6_4 : Int) := of_decide_eq_true (by first | (with_reducible assumption) | assumption)
                          have q13 : x6_4 < (a0.size : Int) := of_decide_eq_true (by first | (with_reducible assumption) | assumption)
                          have hx13 := bt_at a0 x6_4
                          replace p13 := eq_true p13
                          replace q13 := eq_true q13
                          go_wp2
                          go_ret2
                          exact ⟨by first | rfl | (simp [errW_none, errW_some] <;> rfl) | (simp [*, errW_none, errW_some] <;> rfl), by repeat (first | (with_reducible first | exact HB.out | apply below_alloc | apply pw_below_drewN | apply below_drew1) | exact HB.out)⟩
                        · rw [if_neg c14] at H
                          have c14b0 : decide ((bt a0 x6_4) < 48) = false := decide_eq_false c14
                          clear c14
                          by_cases c16 : (bt a0 x6_4) > 57
                          · rw [if_pos c16] at H
                            have c16b0 : decide (57 < (bt a0 x6_4)) = true := decide_eq_true c16
                            clear c16
                            simp only [Option.some.injEq, Prod.mk.injEq] at H
                            obtain ⟨rfl, rfl⟩ := H
                            have p13 : 0 ≤ (x6_4 : Int) := of_decide_eq_true (by first | (with_reducible assumption) | assumption)
                            have q13 : x6_4 < (a0.size : Int) := of_decide_eq_true (by first | (with_reducible assumption) | assumption)
                            have hx13 := bt_at a0 x6_4
                            replace p13 := eq_true p13
                            replace q13 := eq_true q13
                            have p15 : 0 ≤ (x6_4 : Int) := of_decide_eq_true (by first | (with_reducible assumption) | assumption)
                            have q15 : x6_4 < (a0.size : Int) := of_decide_eq_true (by first | (with_reducible assumption) | assumption)
                            have hx15 := bt_at a0 x6_4
                            replace p15 := eq_true p15
                            replace q15 := eq_true q15
                            go_wp2
                            go_ret2
                            exact ⟨by first | rfl | (simp [errW_none, errW_some] <;> rfl) | (simp [*, errW_none, errW_some] <;> rfl), by repeat (first | (with_reducible first | exact HB.out | apply below_alloc | apply pw_below_drewN | apply below_drew1) | exact HB.out)⟩
                          · rw [if_neg c16] at H
                            have c16b0 : decide (57 < (bt a0 x6_4)) = false := decide_eq_false c16
                            clear c16
                            have H' := Aside0.mk H
                            clear H
                            have p13 : 0 ≤ (x6_4 : Int) := of_decide_eq_true (by first | (with_reducible assumption) | assumption)
                            have q13 : x6_4 < (a0.size : Int) := of_decide_eq_true (by first | (with_reducible assumption) | assumption)
                            have hx13 := bt_at a0 x6_4
                            replace p13 := eq_true p13
                            replace q13 := eq_true q13
                            have p15 : 0 ≤ (x6_4 : Int) := of_decide_eq_true (by first | (with_reducible assumption) | assumption)
                            have q15 : x6_4 < (a0.size : Int) := of_decide_eq_true (by first | (with_reducible assumption) | assumption)
                            have hx15 := bt_at a0 x6_4
                            replace p15 := eq_true p15
                            replace q15 := eq_true q15
                            have p17 : 0 ≤ (x6_4 : Int) := of_decide_eq_true (by first | (with_reducible assumption) | assumption)
                            have q17 : x6_4 < (a0.size : Int) := of_decide_eq_true (by first | (with_reducible assumption) | assumption)
                            have hx17 := bt_at a0 x6_4
                            replace p17 := eq_true p17
                            replace q17 := eq_true q17
                            go_wp2
                            go_roundg k4
                            case measure => have := HJ1.out; have := HJ5.out; have := HJ7.out; have := HK4.out; omega
                            case rel => exact ⟨(wrap64 ((wrap64 (x5_4 * 10)) - (((bt a0 x6_4) - 48) % 256))), (wrap64 (x6_4 + 1)), (by first | rfl | (simp; done) | (simp [*]; done)), (by first | rfl | (simp; done) | (simp [*]; done)), H', ⟨by have := HJ1.out; have := HJ5.out; have := HJ7.out; have := HK4.out; omega⟩, ⟨by repeat (first | (with_reducible first | exact HB.out | apply below_alloc | apply pw_below_drewN | apply below_drew1) | exact HB.out)⟩⟩
                      · rw [if_neg c12] at H
                        exact absurd H (by simp)
                    · rw [if_neg c11] at H
                      have c11b0 : decide (x6_4 < (a0.size : Int)) = false := decide_eq_false c11
                      clear c11
                      by_cases c18 : x4_5 = 0
                      · rw [if_pos c18] at H
                        have c18b0 : (x4_5 == 0) = true := beq_iff_eq.mpr c18
                        have c18b1 : (x4_5 != 0) = false := bne_eq_false_iff_eq.mpr c18
                        clear c18
                        replace H := Option.bind_eq_some_iff.mp H
                        obtain ⟨t282, A190, H⟩ := H
                        replace H : (some (wrap64 (-x5_4), (t282.toList == a0.toList))) = some (r1, r2) := H
                        have A19 := Aside0.mk A190
                        clear A190
                        simp only [Option.some.injEq, Prod.mk.injEq] at H
                        obtain ⟨rfl, rfl⟩ := H
                        go_wp2_with (first | ((with_reducible refine gate_callee (f := 47) rfl ?_); refine goesL_ (some 55) rfl rfl Tryd.func47 (by kernel_rfl) rfl #[.int .i64 (wrap64 (-x5_4))] rfl (by (try simp only [List.map_toArray, List.map_cons, List.map_nil]); first | done | rfl | (simp only [List.length_drop, List.length_take]; rfl)) ?_; (with_reducible refine (squintref18_digits.calls k4 (wrap64 (-x5_4)) t282 _ A19.out).mono ?_); rintro e w20 ⟨rfl, hb⟩; refine ⟨_, rfl, ?_⟩; have n0_ := Aside0.mk (below_step (by repeat (first | (with_reducible first | exact HB.out | apply below_alloc | apply pw_below_drewN | apply below_drew1) | exact HB.out)) hb); clear HB; have HB := n0_; clear n0_; (try clear hb); (try clear hb2); (try clear hk); (try clear hi)))
                        go_ret2
                        exact ⟨by first | rfl | (simp [errW_none, errW_some] <;> rfl) | (simp [*, errW_none, errW_some] <;> rfl), by repeat (first | (with_reducible first | exact HB.out | apply below_alloc | apply pw_below_drewN | apply below_drew1) | exact HB.out)⟩
                      · rw [if_neg c18] at H
                        have c18b0 : (x4_5 == 0) = false := beq_eq_false_iff_ne.mpr c18
                        have c18b1 : (x4_5 != 0) = true := bne_iff_ne.mpr c18
                        replace H := Option.bind_eq_some_iff.mp H
                        obtain ⟨t283, A210, H⟩ := H
                        replace H : (some (x5_4, (t283.toList == a0.toList))) = some (r1, r2) := H
                        have A21 := Aside0.mk A210
                        clear A210
                        simp only [Option.some.injEq, Prod.mk.injEq] at H
                        obtain ⟨rfl, rfl⟩ := H
                        go_wp2_with (first | ((with_reducible refine gate_callee (f := 47) rfl ?_); refine goesL_ (some 55) rfl rfl Tryd.func47 (by kernel_rfl) rfl #[.int .i64 x5_4] rfl (by (try simp only [List.map_toArray, List.map_cons, List.map_nil]); first | done | rfl | (simp only [List.length_drop, List.length_take]; rfl)) ?_; (with_reducible refine (squintref18_digits.calls k4 x5_4 t283 _ A21.out).mono ?_); rintro e w22 ⟨rfl, hb⟩; refine ⟨_, rfl, ?_⟩; have n0_ := Aside0.mk (below_step (by repeat (first | (with_reducible first | exact HB.out | apply below_alloc | apply pw_below_drewN | apply below_drew1) | exact HB.out)) hb); clear HB; have HB := n0_; clear n0_; (try clear hb); (try clear hb2); (try clear hk); (try clear hi)))
                        go_ret2
                        exact ⟨by first | rfl | (simp [errW_none, errW_some] <;> rfl) | (simp [*, errW_none, errW_some] <;> rfl), by repeat (first | (with_reducible first | exact HB.out | apply below_alloc | apply pw_below_drewN | apply below_drew1) | exact HB.out)⟩
def squintref18_place.l0 : Nat → List ByteArray → ByteArray → Int → Option (Int)
  | 0, _, _, _ => none
  | k + 1, x0, x1, x5 => if x5 < (x0.length : Int) then (if 0 ≤ x5 then (if (rdOf ByteArray.empty x0 x5).toList = x1.toList then (some (wrap64 (x5 + 1))) else (squintref18_place.l0 k x0 x1 (wrap64 (x5 + 1)))) else (none)) else (some 0)
def squintref18_place.f (k : Nat) (l0 : List ByteArray) (a1 : ByteArray) : Option (Int) := squintref18_place.l0 k l0 a1 0
set_option maxHeartbeats 8000000 in
set_option maxRecDepth 100000 in
theorem squintref18_place.calls (k : Nat) (A0 : Option Addr) (c0 : Nat) (l0 : List ByteArray) (a1 : ByteArray) (r : Int) (w : World) (hr0 : Kd.C Kd.string w A0 l0.length l0) (hc0 : l0.length ≤ c0) (h : squintref18_place.f k l0 a1 = some r) :
    Calls Tryd.prog 52 #[.slice A0 l0.length c0, .string a1] w fun e w' => e = .returned (.int .i64 r) ∧ Drawn0 w w' := by
  have HR0 := Aside0.mk hr0
  have HC0 := Aside0.mk hc0
  clear hr0 hc0
  have H : (squintref18_place.l0 k l0 a1 0) = some r := h
  clear h
  have H' := Aside0.mk H
  clear H
  go_enter Tryd.func52, Tryd.ntmps52
  go_wp2
  go_loopg [5] k (fun kq v5 w' => ∃ (x5_1 : Int), v5 = .int .i64 x5_1 ∧ Aside0 (squintref18_place.l0 kq l0 a1 x5_1 = some r) ∧ Aside0 (kq ≤ k) ∧ Drawn0 w w')
  case atStart => exact ⟨(0), (by first | rfl | (simp; done) | (simp [*]; done)), H', ⟨Nat.le_refl _⟩, by repeat (first | exact Drawn0.refl _ | apply Drawn0.step)⟩
  case round =>
    clear H'
    try clear p2
    obtain ⟨x5_1, rfl, HA, HK1, ⟨m1, rfl⟩⟩ := hrel
    cases gk with
    | zero => exact absurd HA.out (by simp [squintref18_place.l0])
    | succ k1 =>
      have H := HA.out
      clear HA
      simp only [squintref18_place.l0] at H
      by_cases c3 : x5_1 < (l0.length : Int)
      · rw [if_pos c3] at H
        have c3b0 : decide (x5_1 < (l0.length : Int)) = true := decide_eq_true c3
        clear c3
        by_cases c4 : 0 ≤ x5_1
        · rw [if_pos c4] at H
          have c4b0 : decide (0 ≤ x5_1) = true := decide_eq_true c4
          clear c4
          by_cases c5 : (rdOf ByteArray.empty l0 x5_1).toList = a1.toList
          · rw [if_pos c5] at H
            have c5b0 : ((rdOf ByteArray.empty l0 x5_1).toList == a1.toList) = true := beq_iff_eq.mpr c5
            have c5b1 : ((rdOf ByteArray.empty l0 x5_1).toList != a1.toList) = false := bne_eq_false_iff_eq.mpr c5
            clear c5
            obtain rfl := Option.some.inj H
            have p284 : 0 ≤ (x5_1 : Int) := of_decide_eq_true (by first | (with_reducible assumption) | assumption)
            have q284 : x5_1 < (l0.length : Int) := of_decide_eq_true (by first | (with_reducible assumption) | assumption)
            obtain ⟨ad284, e284, hx284_0⟩ := Kd.at_string HR0.out x5_1 p284 q284
            cases e284
            replace p284 := eq_true p284
            replace q284 := eq_true q284
            go_wp2
            go_ret
            exact ⟨by first | rfl | (simp; done) | (simp [*]; done), by repeat (first | exact Drawn0.refl _ | apply Drawn0.step)⟩
          · rw [if_neg c5] at H
            have c5b0 : ((rdOf ByteArray.empty l0 x5_1).toList == a1.toList) = false := beq_eq_false_iff_ne.mpr c5
            have c5b1 : ((rdOf ByteArray.empty l0 x5_1).toList != a1.toList) = true := bne_iff_ne.mpr c5
            have H' := Aside0.mk H
            clear H
            have p284 : 0 ≤ (x5_1 : Int) := of_decide_eq_true (by first | (with_reducible assumption) | assumption)
            have q284 : x5_1 < (l0.length : Int) := of_decide_eq_true (by first | (with_reducible assumption) | assumption)
            obtain ⟨ad284, e284, hx284_0⟩ := Kd.at_string HR0.out x5_1 p284 q284
            cases e284
            replace p284 := eq_true p284
            replace q284 := eq_true q284
            go_wp2
            go_roundg k1
            case measure => have := HK1.out; omega
            case rel => exact ⟨(wrap64 (x5_1 + 1)), (by first | rfl | (simp; done) | (simp [*]; done)), H', ⟨by have := HK1.out; omega⟩, by repeat (first | exact Drawn0.refl _ | apply Drawn0.step)⟩
        · rw [if_neg c4] at H
          exact absurd H (by simp)
      · rw [if_neg c3] at H
        have c3b0 : decide (x5_1 < (l0.length : Int)) = false := decide_eq_false c3
        clear c3
        obtain rfl := Option.some.inj H
        go_wp2
        go_ret
        exact ⟨by first | rfl | (simp; done) | (simp [*]; done), by repeat (first | exact Drawn0.refl _ | apply Drawn0.step)⟩
mutual
def squintlaw18_marked.l0 : Nat → List (S24) → Int → Int → Option (Bool)
  | 0, _, _, _ => none
  | k + 1, x0, x1, x5 => if x5 < (x0.length : Int) then (if 0 ≤ x5 then (if ((rd_T24 x0 x5).f0) = x1 then (squintlaw18_marked.l1 k x0 x1 x5 0) else (some false)) else (none)) else (some true)
def squintlaw18_marked.l1 : Nat → List (S24) → Int → Int → Int → Option (Bool)
  | 0, _, _, _, _ => none
  | k + 1, x0, x1, x5, x6 => if 0 ≤ x5 then (if x5 < (x0.length : Int) then (if x6 < (((rd_T24 x0 x5).f7).length : Int) then (if 0 ≤ x6 then (if (rd ((rd_T24 x0 x5).f7) x6) = (wrap64 (x1 - x5)) then (squintlaw18_marked.l1 k x0 x1 x5 (wrap64 (x6 + 1))) else (some false)) else (none)) else (squintlaw18_marked.l0 k x0 x1 (wrap64 (x5 + 1)))) else (none)) else (none)
end
def squintlaw18_marked.f (k : Nat) (l0 : List (S24)) (a1 : Int) : Option (Bool) := squintlaw18_marked.l0 k l0 a1 0
set_option maxHeartbeats 8000000 in
set_option maxRecDepth 100000 in
theorem squintlaw18_marked.calls (k : Nat) (A0 : Option Addr) (c0 : Nat) (l0 : List (S24)) (a1 : Int) (r : Bool) (w : World) (hr0 : Kd.C k24 w A0 l0.length l0) (hc0 : l0.length ≤ c0) (h : squintlaw18_marked.f k l0 a1 = some r) :
    Calls Tryd.prog 22 #[.slice A0 l0.length c0, .int .i64 a1] w fun e w' => e = .returned (.bool r) ∧ Drawn0 w w' := by
  have HR0 := Aside0.mk hr0
  have HC0 := Aside0.mk hc0
  clear hr0 hc0
  have H : (squintlaw18_marked.l0 k l0 a1 0) = some r := h
  clear h
  have H' := Aside0.mk H
  clear H
  go_enter Tryd.func22, Tryd.ntmps22
  go_wp2
  go_loopg [5] k (fun kq v5 w' => ∃ (x5_1 : Int), v5 = .int .i64 x5_1 ∧ Aside0 (squintlaw18_marked.l0 kq l0 a1 x5_1 = some r) ∧ Aside0 (kq ≤ k) ∧ Drawn0 w w')
  case atStart => exact ⟨(0), (by first | rfl | (simp; done) | (simp [*]; done)), H', ⟨Nat.le_refl _⟩, by repeat (first | exact Drawn0.refl _ | apply Drawn0.step)⟩
  case round =>
    clear H'
    try clear c2
    try clear p2
    obtain ⟨x5_1, rfl, HA, HK1, ⟨m1, rfl⟩⟩ := hrel
    cases gk with
    | zero => exact absurd HA.out (by simp [squintlaw18_marked.l0])
    | succ k1 =>
      have H := HA.out
      clear HA
      simp only [squintlaw18_marked.l0] at H
      by_cases c3 : x5_1 < (l0.length : Int)
      · rw [if_pos c3] at H
        have c3b0 : decide (x5_1 < (l0.length : Int)) = true := decide_eq_true c3
        clear c3
        by_cases c4 : 0 ≤ x5_1
        · rw [if_pos c4] at H
          have c4b0 : decide (0 ≤ x5_1) = true := decide_eq_true c4
          clear c4
          by_cases c5 : ((rd_T24 l0 x5_1).f0) = a1
          · rw [if_pos c5] at H
            have c5b0 : (((rd_T24 l0 x5_1).f0) == a1) = true := beq_iff_eq.mpr c5
            have c5b1 : (((rd_T24 l0 x5_1).f0) != a1) = false := bne_eq_false_iff_eq.mpr c5
            clear c5
            have H' := Aside0.mk H
            clear H
            have p296 : 0 ≤ (x5_1 : Int) := of_decide_eq_true (by first | (with_reducible assumption) | assumption)
            have q296 : x5_1 < (l0.length : Int) := of_decide_eq_true (by first | (with_reducible assumption) | assumption)
            obtain ⟨ad296, A296_7, c296_7, e296, hx296_0, hx296_1, hx296_2, hx296_3, hx296_4, hx296_5, hx296_6, hx296_7, hl296_7, hi296_7⟩ := at_T24 HR0.out x5_1 p296 q296
            cases e296
            have HR296_7 := Aside0.mk hi296_7
            have HC296_7 := Aside0.mk hl296_7
            clear hi296_7 hl296_7
            replace p296 := eq_true p296
            replace q296 := eq_true q296
            go_wp2
            go_loopg [6] k1 (fun kq v6 w' => ∃ (x6_2 : Int), v6 = .int .i64 x6_2 ∧ Aside0 (squintlaw18_marked.l1 kq l0 a1 x5_1 x6_2 = some r) ∧ Aside0 (kq ≤ k1) ∧ Drawn0 w w')
            case atStart => exact ⟨(0), (by first | rfl | (simp; done) | (simp [*]; done)), H', ⟨Nat.le_refl _⟩, by repeat (first | exact Drawn0.refl _ | apply Drawn0.step)⟩
            case round =>
              clear H'
              try clear c2
              try clear p2
              try clear q2
              try clear hx2
              try clear c3
              try clear c3b0
              try clear c4
              try clear c4b0
              try clear c5
              try clear c5b0
              try clear c5b1
              try clear hx296_0
              try clear hx296_1
              try clear hx296_2
              try clear hx296_3
              try clear hx296_4
              try clear hx296_5
              try clear hx296_6
              try clear hx296_7
              try clear p2
              try clear p296
              try clear q296
              obtain ⟨x6_2, rfl, HA, HK2, ⟨m2, rfl⟩⟩ := hrel
              cases gk with
              | zero => exact absurd HA.out (by simp [squintlaw18_marked.l1])
              | succ k2 =>
                have H := HA.out
                clear HA
                simp only [squintlaw18_marked.l1] at H
                by_cases c6 : 0 ≤ x5_1
                · rw [if_pos c6] at H
                  have c6b0 : decide (0 ≤ x5_1) = true := decide_eq_true c6
                  clear c6
                  by_cases c7 : x5_1 < (l0.length : Int)
                  · rw [if_pos c7] at H
                    have c7b0 : decide (x5_1 < (l0.length : Int)) = true := decide_eq_true c7
                    clear c7
                    by_cases c8 : x6_2 < (((rd_T24 l0 x5_1).f7).length : Int)
                    · rw [if_pos c8] at H
                      have c8b0 : decide (x6_2 < (((rd_T24 l0 x5_1).f7).length : Int)) = true := decide_eq_true c8
                      clear c8
                      by_cases c9 : 0 ≤ x6_2
                      · rw [if_pos c9] at H
                        have c9b0 : decide (0 ≤ x6_2) = true := decide_eq_true c9
                        clear c9
                        by_cases c10 : (rd ((rd_T24 l0 x5_1).f7) x6_2) = (wrap64 (a1 - x5_1))
                        · rw [if_pos c10] at H
                          have c10b0 : ((rd ((rd_T24 l0 x5_1).f7) x6_2) == (wrap64 (a1 - x5_1))) = true := beq_iff_eq.mpr c10
                          have c10b1 : ((rd ((rd_T24 l0 x5_1).f7) x6_2) != (wrap64 (a1 - x5_1))) = false := bne_eq_false_iff_eq.mpr c10
                          clear c10
                          have H' := Aside0.mk H
                          clear H
                          have p297 : 0 ≤ (x5_1 : Int) := of_decide_eq_true (by first | (with_reducible assumption) | assumption)
                          have q297 : x5_1 < (l0.length : Int) := of_decide_eq_true (by first | (with_reducible assumption) | assumption)
                          obtain ⟨ad297, A297_7, c297_7, e297, hx297_0, hx297_1, hx297_2, hx297_3, hx297_4, hx297_5, hx297_6, hx297_7, hl297_7, hi297_7⟩ := at_T24 HR0.out x5_1 p297 q297
                          obtain rfl : ad296 = ad297 := (by injection e297)
                          have HR297_7 := Aside0.mk hi297_7
                          have HC297_7 := Aside0.mk hl297_7
                          clear hi297_7 hl297_7
                          replace p297 := eq_true p297
                          replace q297 := eq_true q297
                          have p298 : 0 ≤ (x5_1 : Int) := of_decide_eq_true (by first | (with_reducible assumption) | assumption)
                          have q298 : x5_1 < (l0.length : Int) := of_decide_eq_true (by first | (with_reducible assumption) | assumption)
                          obtain ⟨ad298, A298_7, c298_7, e298, hx298_0, hx298_1, hx298_2, hx298_3, hx298_4, hx298_5, hx298_6, hx298_7, hl298_7, hi298_7⟩ := at_T24 HR0.out x5_1 p298 q298
                          obtain rfl : ad296 = ad298 := (by injection e298)
                          have HR298_7 := Aside0.mk hi298_7
                          have HC298_7 := Aside0.mk hl298_7
                          clear hi298_7 hl298_7
                          replace p298 := eq_true p298
                          replace q298 := eq_true q298
                          have ea_ := Option.some.inj (hx297_7.symm.trans hx298_7)
                          injection ea_ with ea_ en_ ec_
                          subst ea_
                          subst ec_
                          clear en_
                          have p299 : 0 ≤ (x6_2 : Int) := of_decide_eq_true (by first | (with_reducible assumption) | assumption)
                          have q299 : x6_2 < (((rd_T24 l0 x5_1).f7).length : Int) := of_decide_eq_true (by first | (with_reducible assumption) | assumption)
                          obtain ⟨ad299, e299, hx299_0⟩ := Kd.at_int HR298_7.out x6_2 p299 q299
                          cases e299
                          replace p299 := eq_true p299
                          replace q299 := eq_true q299
                          go_wp2
                          go_roundg k2
                          case measure => have := HK1.out; have := HK2.out; omega
                          case rel => exact ⟨(wrap64 (x6_2 + 1)), (by first | rfl | (simp; done) | (simp [*]; done)), H', ⟨by have := HK1.out; have := HK2.out; omega⟩, by repeat (first | exact Drawn0.refl _ | apply Drawn0.step)⟩
                        · rw [if_neg c10] at H
                          have c10b0 : ((rd ((rd_T24 l0 x5_1).f7) x6_2) == (wrap64 (a1 - x5_1))) = false := beq_eq_false_iff_ne.mpr c10
                          have c10b1 : ((rd ((rd_T24 l0 x5_1).f7) x6_2) != (wrap64 (a1 - x5_1))) = true := bne_iff_ne.mpr c10
                          obtain rfl := Option.some.inj H
                          have p297 : 0 ≤ (x5_1 : Int) := of_decide_eq_true (by first | (with_reducible assumption) | assumption)
                          have q297 : x5_1 < (l0.length : Int) := of_decide_eq_true (by first | (with_reducible assumption) | assumption)
                          obtain ⟨ad297, A297_7, c297_7, e297, hx297_0, hx297_1, hx297_2, hx297_3, hx297_4, hx297_5, hx297_6, hx297_7, hl297_7, hi297_7⟩ := at_T24 HR0.out x5_1 p297 q297
                          obtain rfl : ad296 = ad297 := (by injection e297)
                          have HR297_7 := Aside0.mk hi297_7
                          have HC297_7 := Aside0.mk hl297_7
                          clear hi297_7 hl297_7
                          replace p297 := eq_true p297
                          replace q297 := eq_true q297
                          have p298 : 0 ≤ (x5_1 : Int) := of_decide_eq_true (by first | (with_reducible assumption) | assumption)
                          have q298 : x5_1 < (l0.length : Int) := of_decide_eq_true (by first | (with_reducible assumption) | assumption)
                          obtain ⟨ad298, A298_7, c298_7, e298, hx298_0, hx298_1, hx298_2, hx298_3, hx298_4, hx298_5, hx298_6, hx298_7, hl298_7, hi298_7⟩ := at_T24 HR0.out x5_1 p298 q298
                          obtain rfl : ad296 = ad298 := (by injection e298)
                          have HR298_7 := Aside0.mk hi298_7
                          have HC298_7 := Aside0.mk hl298_7
                          clear hi298_7 hl298_7
                          replace p298 := eq_true p298
                          replace q298 := eq_true q298
                          have ea_ := Option.some.inj (hx297_7.symm.trans hx298_7)
                          injection ea_ with ea_ en_ ec_
                          subst ea_
                          subst ec_
                          clear en_
                          have p299 : 0 ≤ (x6_2 : Int) := of_decide_eq_true (by first | (with_reducible assumption) | assumption)
                          have q299 : x6_2 < (((rd_T24 l0 x5_1).f7).length : Int) := of_decide_eq_true (by first | (with_reducible assumption) | assumption)
                          obtain ⟨ad299, e299, hx299_0⟩ := Kd.at_int HR298_7.out x6_2 p299 q299
                          cases e299
                          replace p299 := eq_true p299
                          replace q299 := eq_true q299
                          go_wp2
                          go_ret
                          exact ⟨by first | rfl | (simp; done) | (simp [*]; done), by repeat (first | exact Drawn0.refl _ | apply Drawn0.step)⟩
                      · rw [if_neg c9] at H
                        exact absurd H (by simp)
                    · rw [if_neg c8] at H
                      have c8b0 : decide (x6_2 < (((rd_T24 l0 x5_1).f7).length : Int)) = false := decide_eq_false c8
                      clear c8
                      have H' := Aside0.mk H
                      clear H
                      have p297 : 0 ≤ (x5_1 : Int) := of_decide_eq_true (by first | (with_reducible assumption) | assumption)
                      have q297 : x5_1 < (l0.length : Int) := of_decide_eq_true (by first | (with_reducible assumption) | assumption)
                      obtain ⟨ad297, A297_7, c297_7, e297, hx297_0, hx297_1, hx297_2, hx297_3, hx297_4, hx297_5, hx297_6, hx297_7, hl297_7, hi297_7⟩ := at_T24 HR0.out x5_1 p297 q297
                      obtain rfl : ad296 = ad297 := (by injection e297)
                      have HR297_7 := Aside0.mk hi297_7
                      have HC297_7 := Aside0.mk hl297_7
                      clear hi297_7 hl297_7
                      replace p297 := eq_true p297
                      replace q297 := eq_true q297
                      go_wp2
                      go_roundg k2
                      case measure => have := HK1.out; have := HK2.out; omega
                      case rel => exact ⟨(wrap64 (x5_1 + 1)), (by first | rfl | (simp; done) | (simp [*]; done)), H', ⟨by have := HK1.out; have := HK2.out; omega⟩, by repeat (first | exact Drawn0.refl _ | apply Drawn0.step)⟩
                  · rw [if_neg c7] at H
                    exact absurd H (by simp)
                · rw [if_neg c6] at H
                  exact absurd H (by simp)
          · rw [if_neg c5] at H
            have c5b0 : (((rd_T24 l0 x5_1).f0) == a1) = false := beq_eq_false_iff_ne.mpr c5
            have c5b1 : (((rd_T24 l0 x5_1).f0) != a1) = true := bne_iff_ne.mpr c5
            obtain rfl := Option.some.inj H
            have p296 : 0 ≤ (x5_1 : Int) := of_decide_eq_true (by first | (with_reducible assumption) | assumption)
            have q296 : x5_1 < (l0.length : Int) := of_decide_eq_true (by first | (with_reducible assumption) | assumption)
            obtain ⟨ad296, A296_7, c296_7, e296, hx296_0, hx296_1, hx296_2, hx296_3, hx296_4, hx296_5, hx296_6, hx296_7, hl296_7, hi296_7⟩ := at_T24 HR0.out x5_1 p296 q296
            cases e296
            have HR296_7 := Aside0.mk hi296_7
            have HC296_7 := Aside0.mk hl296_7
            clear hi296_7 hl296_7
            replace p296 := eq_true p296
            replace q296 := eq_true q296
            go_wp2
            go_ret
            exact ⟨by first | rfl | (simp; done) | (simp [*]; done), by repeat (first | exact Drawn0.refl _ | apply Drawn0.step)⟩
        · rw [if_neg c4] at H
          exact absurd H (by simp)
      · rw [if_neg c3] at H
        have c3b0 : decide (x5_1 < (l0.length : Int)) = false := decide_eq_false c3
        clear c3
        obtain rfl := Option.some.inj H
        go_wp2
        go_ret
        exact ⟨by first | rfl | (simp; done) | (simp [*]; done), by repeat (first | exact Drawn0.refl _ | apply Drawn0.step)⟩
end Go.Proofs.YtiapfhlipoomaaaDoor.Print
end
section
namespace Go.Proofs.YtiapfhlipoomaaaDoor.Given
open Go.RowKit Go.Proofs.YtiapfhlipoomaaaDoorW.PrintWords Go.Proofs.YtiapfhlipoomaaaDoorW.PrintLast Go.Proofs.YtiapfhlipoomaaaDoorW.PrintMore Go.Proofs.YtiapfhlipoomaaaDoor.Print
set_option linter.unusedVariables false
set_option linter.unusedSimpArgs false
theorem bt_get (s : ByteArray) (i : Nat) (h : i < s.size) : bt s (i : Int) = ((s[i]'h).toNat : Int) := by
  unfold bt
  rw [dif_pos (by rw [Int.toNat_natCast]; exact h)]
  rfl
theorem drop_bt (s : ByteArray) (i : Nat) (h : i < s.size) : s.data.toList.drop i = s[i]'h :: s.data.toList.drop (i + 1) := by
  rw [List.drop_eq_getElem_cons (by rw [list_size]; exact h)]
  rfl
def cutW : List UInt8 → List UInt8 → List (List UInt8)
  | cur, [] => [cur]
  | cur, c :: l => if c.toNat = 32 then cur :: cutW [] l else cutW (cur ++ [c]) l
def mkB (l : List UInt8) : ByteArray := ⟨l.toArray⟩
theorem ext_mk (s : ByteArray) (a i : Nat) : s.extract a i = mkB ((s.data.toList.drop a).take (i - a)) := bytes_ext (by rw [ext_list]; rfl)
theorem split_go (s : ByteArray) (hs : s.size < 4294967296) : ∀ (n i a : Nat) (acc : List ByteArray), s.size - i = n → i ≤ s.size → a ≤ i → acc.length ≤ i →
    ∃ k, squintref18_split.l0 k s acc (a : Int) (i : Int) = some (acc ++ (cutW ((s.data.toList.drop a).take (i - a)) (s.data.toList.drop i)).map mkB)
  | 0, i, a, acc, hn, hi, ha, hl => by
    obtain rfl : i = s.size := by omega
    refine ⟨2, ?_⟩
    unfold squintref18_split.l0
    rw [if_pos (by omega), if_pos rfl, if_pos (by omega), if_pos (by omega), if_pos (by omega)]
    unfold squintref18_split.l0
    rw [show wrap64 ((s.size : Int) + 1) = (s.size : Int) + 1 by simp only [wrap64]; omega, if_neg (by omega), Int.toNat_natCast, Int.toNat_natCast, ext_mk, show s.data.toList.drop s.size = [] from List.drop_eq_nil_of_le (by rw [list_size]; exact Nat.le_refl _)]
    rfl
  | n + 1, i, a, acc, hn, hi, ha, hl => by
    have hlt : i < s.size := by omega
    have hd := drop_bt s i hlt
    have hb := bt_get s i hlt
    have hw : wrap64 ((i : Int) + 1) = ((i + 1 : Nat) : Int) := by simp only [wrap64]; omega
    by_cases h32 : (s[i]'hlt).toNat = 32
    · obtain ⟨k, hk⟩ := split_go s hs n (i + 1) (i + 1) (acc ++ [s.extract a i]) (by omega) (by omega) (Nat.le_refl _) (by simp; omega)
      refine ⟨k + 1, ?_⟩
      unfold squintref18_split.l0
      rw [if_pos (by omega), if_neg (by omega), if_pos (by omega), if_pos (by omega), if_pos (by omega), if_pos (by omega), if_pos (by omega), if_pos (by omega), hw, Int.toNat_natCast, Int.toNat_natCast, hk, hd, cutW, if_pos h32, ext_mk]
      simp
    · obtain ⟨k, hk⟩ := split_go s hs n (i + 1) a acc (by omega) (by omega) (by omega) (by omega)
      refine ⟨k + 1, ?_⟩
      unfold squintref18_split.l0
      rw [if_pos (by omega), if_neg (by omega), if_pos (by omega), if_pos (by omega), if_neg (by omega), hw, hk, hd, cutW, if_neg h32]
      have e : (s.data.toList.drop a).take (i + 1 - a) = (s.data.toList.drop a).take (i - a) ++ [s[i]'hlt] := by
        rw [show i + 1 - a = (i - a) + 1 by omega, List.take_add_one]
        have : (s.data.toList.drop a)[i - a]? = some (s[i]'hlt) := by
          rw [List.getElem?_drop, show a + (i - a) = i by omega, List.getElem?_eq_getElem (by rw [list_size]; exact hlt)]
          rfl
        rw [this]
        rfl
      rw [e]
theorem cut_join : ∀ (ws : List (List UInt8)) (w cur : List UInt8), (32 : UInt8) ∉ w → (∀ x ∈ ws, (32 : UInt8) ∉ x) → cutW cur (joinS w ws) = (cur ++ w) :: ws
  | [], [], cur, _, _ => by simp [joinS, cutW]
  | x :: ws, [], cur, _, h => by
    rw [join_cons, List.nil_append, cutW, if_pos (by decide), cut_join ws x [] (h x (by simp)) (fun y hy => h y (by simp [hy]))]
    simp
  | ws, c :: w, cur, hw, h => by
    have e : joinS (c :: w) ws = c :: joinS w ws := by simp [joinS]
    have hc : c.toNat ≠ 32 := fun he => hw (by
      have : c = 32 := UInt8.toNat_inj.1 he
      simp [this])
    rw [e, cutW, if_neg hc, cut_join ws w (cur ++ [c]) (fun hm => hw (by simp [hm])) h]
    simp
theorem split_says (s : ByteArray) (hs : s.size < 4294967296) : ∃ k, squintref18_split.f k s = some (wordsL s) := by
  obtain ⟨k, hk⟩ := split_go s hs s.size 0 0 [] rfl (Nat.zero_le _) (Nat.le_refl _) (by simp)
  refine ⟨k, ?_⟩
  unfold squintref18_split.f
  have hk' : squintref18_split.l0 k s [] 0 0 = _ := hk
  rw [hk']
  refine congrArg some ?_
  obtain ⟨w, ws, he, hw, hws⟩ := join_decomp s.data.toList
  have hj := words_join w ws hw hws
  have ht : s = ⟨(joinS w ws).toArray⟩ := bytes_ext (by rw [he])
  rw [← ht] at hj
  apply map_ext
  rw [hj, List.nil_append, List.drop_zero, he, Nat.sub_zero, List.take_zero, cut_join ws w [] hw hws]
  rw [List.map_map]
  simp [mkB, Function.comp_def]
def numVal : Int → List UInt8 → Option Int
  | n, [] => some n
  | n, b :: l => if 48 ≤ b.toNat ∧ b.toNat ≤ 57 then numVal (wrap64 (wrap64 (n * 10) - ((b.toNat : Int) - 48))) l else none
theorem wrap_rng (n : Int) : Rng (wrap64 n) := by
  unfold Rng
  simp only [wrap64]
  omega
theorem num_go (s : ByteArray) (hs : s.size ≤ 1000) (at_ : Int) (hat : at_ = 0 ∨ at_ = 1) : ∀ (m i : Nat) (n : Int), s.size - i = m → i ≤ s.size → Rng n →
    squintref18_number.l0 (m + 22) s at_ n (i : Int) = match numVal n (s.data.toList.drop i) with
      | none => some (0, false)
      | some v => some (if at_ = 0 then wrap64 (-v) else v, (itoaB (if at_ = 0 then wrap64 (-v) else v)).toList == s.toList)
  | 0, i, n, hm, hi, hn => by
    obtain rfl : i = s.size := by omega
    rw [List.drop_eq_nil_of_le (by rw [list_size]; exact Nat.le_refl _)]
    rw [show 0 + 22 = 21 + 1 by omega]
    unfold squintref18_number.l0
    rw [if_neg (by omega)]
    simp only [numVal]
    rcases hat with rfl | rfl
    · rw [if_pos rfl, digits_says _ (wrap_rng _)]
      simp
    · rw [if_neg (by decide), digits_says _ hn]
      simp
  | m + 1, i, n, hm, hi, hn => by
    have hlt : i < s.size := by omega
    rw [show m + 1 + 22 = (m + 22) + 1 by omega, drop_bt s i hlt]
    unfold squintref18_number.l0
    rw [if_pos (by omega), if_pos (by omega), bt_get s i hlt, numVal]
    by_cases h1 : (s[i]'hlt).toNat < 48
    · rw [if_pos (by omega), if_neg (by omega)]
    · rw [if_neg (by omega)]
      by_cases h2 : 57 < (s[i]'hlt).toNat
      · rw [if_pos (by omega), if_neg (by omega)]
      · rw [if_neg (by omega), if_pos (by omega), show (((s[i]'hlt).toNat : Int) - 48) % 256 = ((s[i]'hlt).toNat : Int) - 48 by omega, show wrap64 ((i : Int) + 1) = ((i + 1 : Nat) : Int) by simp only [wrap64]; omega]
        exact num_go s hs at_ hat m (i + 1) _ (by omega) (by omega) (wrap_rng _)
theorem numVal_rng : ∀ (l : List UInt8) (n v : Int), Rng n → numVal n l = some v → Rng v
  | [], n, v, h, e => by
    simp only [numVal, Option.some.injEq] at e
    exact e ▸ h
  | b :: l, n, v, h, e => by
    unfold numVal at e
    split at e
    · exact numVal_rng l _ v (wrap_rng _) e
    · cases e
theorem numVal_app : ∀ (l : List UInt8) (n : Int) (b : UInt8), numVal n (l ++ [b]) = (numVal n l).bind fun v => numVal v [b]
  | [], n, b => rfl
  | c :: l, n, b => by
    rw [List.cons_append, numVal, numVal]
    split
    · exact numVal_app l _ b
    · rfl
theorem numVal_dec : ∀ (u : Nat), u ≤ 9223372036854775808 → numVal 0 (Lib.decDigits u) = some (-(u : Int)) := by
  intro u
  induction u using Nat.strongRecOn with
  | ind u ih =>
    intro hu
    rw [Lib.decDigits]
    by_cases h : u < 10
    · rw [dif_pos h, numVal, dec_digit u h, if_pos (by omega), numVal]
      congr 1
      simp only [wrap64]
      omega
    · rw [dif_neg h, numVal_app, ih (u / 10) (by omega) (by omega), Option.bind_some, numVal, dec_digit _ (by omega), if_pos (by omega), numVal]
      congr 1
      simp only [wrap64]
      omega
def numR (s : ByteArray) : Int × Bool :=
  let at_ : Nat := match s.data.toList with
    | 45 :: _ => 1
    | _ => 0
  if s.size = at_ ∨ s.size > 20 then (0, false) else match numVal 0 (s.data.toList.drop at_) with
    | none => (0, false)
    | some v => (if at_ = 0 then wrap64 (-v) else v, (itoaB (if at_ = 0 then wrap64 (-v) else v)).toList == s.toList)
def numM (s : ByteArray) (at_ : Nat) : Int × Bool := if s.size = at_ ∨ s.size > 20 then (0, false) else match numVal 0 (s.data.toList.drop at_) with
    | none => (0, false)
    | some v => (if at_ = 0 then wrap64 (-v) else v, (itoaB (if at_ = 0 then wrap64 (-v) else v)).toList == s.toList)
theorem j1_says (s : ByteArray) (at_ : Nat) (hat : at_ = 0 ∨ at_ = 1) (hs : at_ ≤ s.size) : ∃ k, squintref18_number.j1 k s (at_ : Int) = some (numM s at_) := by
  unfold numM
  by_cases h1 : s.size = at_
  · refine ⟨0 + 1 + 1, ?_⟩
    rw [if_pos (Or.inl h1)]
    rw [squintref18_number.j1, if_pos (by omega)]
    rw [squintref18_number.j2, if_pos rfl]
  · by_cases h2 : s.size > 20
    · refine ⟨0 + 1 + 1, ?_⟩
      rw [if_pos (Or.inr h2)]
      rw [squintref18_number.j1, if_neg (by omega), decide_eq_true (by omega)]
      rw [squintref18_number.j2, if_pos rfl]
    · refine ⟨s.size - at_ + 22 + 1 + 1, ?_⟩
      rw [if_neg (by omega)]
      rw [squintref18_number.j1, if_neg (by omega), decide_eq_false (by omega)]
      rw [squintref18_number.j2, if_neg (by decide), num_go s (by omega) (at_ : Int) (by omega) (s.size - at_) at_ 0 rfl hs (by unfold Rng; omega)]
      have e : ((at_ : Int) = 0) = (at_ = 0) := by simp
      simp only [e]
      cases numVal 0 (s.data.toList.drop at_) <;> rfl
theorem number_says (s : ByteArray) : ∃ k, squintref18_number.f k s = some (numR s) := by
  have hR : numR s = numM s (match s.data.toList with
    | 45 :: _ => 1
    | _ => 0) := rfl
  by_cases hz : s.size = 0
  · have hl : s.data.toList = [] := List.eq_nil_of_length_eq_zero (by rw [list_size]; exact hz)
    obtain ⟨k, hk⟩ := j1_says s 0 (Or.inl rfl) (Nat.zero_le _)
    refine ⟨k + 1, ?_⟩
    rw [hR, hl]
    unfold squintref18_number.f
    rw [if_neg (by omega)]
    rw [squintref18_number.j0, if_neg (by decide)]
    exact hk
  · have h0 : 0 < s.size := by omega
    have hd := drop_bt s 0 h0
    rw [List.drop_zero] at hd
    have hb := bt_get s 0 h0
    have hb' : bt s 0 = ((s[0]'h0).toNat : Int) := hb
    by_cases h45 : (s[0]'h0) = 45
    · obtain ⟨k, hk⟩ := j1_says s 1 (Or.inr rfl) h0
      refine ⟨k + 1, ?_⟩
      rw [hR, hd, h45]
      unfold squintref18_number.f
      rw [if_pos (by omega), if_pos (by omega), hb', h45]
      rw [squintref18_number.j0, if_pos (by decide)]
      exact hk
    · obtain ⟨k, hk⟩ := j1_says s 0 (Or.inl rfl) (Nat.zero_le _)
      refine ⟨k + 1, ?_⟩
      have hne : (s[0]'h0).toNat ≠ 45 := fun he => h45 (UInt8.toNat_inj.1 he)
      have hat : (match s.data.toList with
        | 45 :: _ => 1
        | _ => 0) = 0 := by
        rw [hd]
        split
        · rename_i heq
          injection heq with h1 _
          exact absurd h1 h45
        · rfl
      rw [hR, hat]
      unfold squintref18_number.f
      rw [if_pos (by omega), if_pos (by omega), hb']
      have hbe : (((s[0]'h0).toNat : Int) == 45) = false := by simp; omega
      rw [hbe]
      rw [squintref18_number.j0, if_neg (by decide)]
      exact hk
theorem numM_true {s : ByteArray} {a : Nat} {v : Int} (h : numM s a = (v, true)) : numOf s = some v := by
  unfold numM at h
  split at h
  · cases h
  · cases hn : numVal 0 (s.data.toList.drop a) with
    | none => rw [hn] at h; cases h
    | some u =>
      rw [hn] at h
      simp only [Prod.mk.injEq] at h
      obtain ⟨h1, h2⟩ := h
      rw [h1] at h2
      have hr : Rng v := by
        rw [← h1]
        split
        · exact wrap_rng _
        · exact numVal_rng _ 0 u (by unfold Rng; omega) hn
      have e : (itoaB v).toList = s.toList := by simpa using h2
      have es : itoaB v = s := bytes_ext (by rw [← Lib.toList_data, ← Lib.toList_data, e])
      rw [← es]
      exact num_itoa v hr
theorem numR_true {s : ByteArray} {v : Int} (h : numR s = (v, true)) : numOf s = some v := numM_true h
theorem numR_of (s : ByteArray) (v : Int) (h : numOf s = some v) : numR s = (v, true) := by
  obtain ⟨hr, he⟩ := numOf_some h
  have es : s = itoaB v := bytes_ext (by rw [← Lib.toList_data, ← Lib.toList_data, he])
  have hsz := itoa_len v hr
  have hl : (itoaB v).data.toList = Lib.itoa v := by simp [itoaB]
  subst es
  have hsl : (itoaB v).size = (Lib.itoa v).length := by rw [← list_size, hl]
  have hR : numR (itoaB v) = numM (itoaB v) (match (itoaB v).data.toList with
    | 45 :: _ => 1
    | _ => 0) := rfl
  rw [hR, hl]
  unfold Lib.itoa at hl hsl ⊢
  by_cases hn : v < 0
  · rw [if_pos hn] at hl hsl ⊢
    simp only
    have hne := dec_ne v.natAbs
    have hlen : 1 ≤ (Lib.decDigits v.natAbs).length := by
      rcases hd : Lib.decDigits v.natAbs with _ | ⟨c, r⟩
      · exact absurd hd hne
      · simp
    unfold numM
    rw [if_neg (by rw [List.length_cons] at hsl; omega), hl, List.drop_one, List.tail_cons, numVal_dec _ (by omega)]
    simp only
    rw [if_neg (by decide), show -((v.natAbs : Nat) : Int) = v by omega]
    simp
  · rw [if_neg hn] at hl hsl ⊢
    have hat : (match Lib.decDigits v.toNat with
        | 45 :: _ => 1
        | _ => 0) = 0 := by
      rcases hd : Lib.decDigits v.toNat with _ | ⟨c, r⟩
      · rfl
      · have := dec_bytes v.toNat c (by rw [hd]; simp)
        split
        · rename_i heq
          injection heq with h1 _
          subst h1
          exact absurd this.1 (by decide)
        · rfl
    have hlen : 1 ≤ (Lib.decDigits v.toNat).length := by
      rcases hd : Lib.decDigits v.toNat with _ | ⟨c, r⟩
      · exact absurd hd (dec_ne _)
      · simp
    rw [hat]
    unfold numM
    rw [if_neg (by omega), hl, List.drop_zero, numVal_dec _ (by omega)]
    simp only
    simp only [if_true]
    rw [show wrap64 (-(-((v.toNat : Nat) : Int))) = v by simp only [wrap64]; omega]
    simp
theorem numR_iff (s : ByteArray) : numOf s = if (numR s).2 = true then some (numR s).1 else none := by
  cases h : numOf s with
  | some v => rw [numR_of s v h]; rfl
  | none =>
    by_cases h2 : (numR s).2 = true
    · have := numR_true (s := s) (v := (numR s).1) (Prod.ext rfl h2)
      rw [h] at this
      cases this
    · rw [if_neg h2]
theorem number_any (t : ByteArray) (w : World) : Calls Tryd.prog 51 #[.string t] w fun e w' => e = .returned (.tuple #[.int .i64 (numR t).1, .bool (numR t).2]) ∧ Below w.heap.size w w' := by
  obtain ⟨k, hk⟩ := number_says t
  exact squintref18_number.calls k t _ _ w hk
theorem split_ref (s : ByteArray) (w : World) (hs : s.size < 4294967296) : Calls Tryd.prog 50 #[.string s] w fun e w' => ∃ v, e = .returned v ∧ Kd.R Kd.string 9 w' w.heap.size (fun _ => True) v (wordsL s) ∧ Below w.heap.size w w' := by
  obtain ⟨k, hk⟩ := split_says s hs
  exact squintref18_split.calls k s _ w hk
end Go.Proofs.YtiapfhlipoomaaaDoor.Given
end
section
namespace Go.Proofs.YtiapfhlipoomaaaDoor.Given
open Go.RowKit Go.Proofs.YtiapfhlipoomaaaDoorW.PrintWords Go.Proofs.YtiapfhlipoomaaaDoorW.PrintLast Go.Proofs.YtiapfhlipoomaaaDoorW.PrintMore Go.Proofs.YtiapfhlipoomaaaDoor.Print
set_option linter.unusedVariables false
set_option linter.unusedSimpArgs false
def letO : Int → Nat
  | 80 => 1
  | 73 => 2
  | 81 => 3
  | 74 => 4
  | 67 => 5
  | _ => 6
theorem letO_else (c : Int) (h1 : c ≠ 80) (h2 : c ≠ 73) (h3 : c ≠ 81) (h4 : c ≠ 74) (h5 : c ≠ 67) : letO c = 6 := by
  unfold letO
  split <;> simp_all
set_option maxRecDepth 100000 in
theorem field_any (g : Nat) (c : Int) (w : World) (x : S24) (lv : Value) (hb : w.heap[g]? = some (.cells (evC x lv) 24 (0, 0))) :
    Calls Tryd.prog 28 #[.pointer (some ⟨g, 0, none⟩), .int .u8 c] w fun e w' => e = .returned (.pointer (some ⟨g, letO c, none⟩)) ∧ w' = w := by
  have hu24 := Tryd.underlying24
  by_cases h1 : c = 80
  · subst h1
    go_enter Tryd.func28, Tryd.ntmps28
    go_wp2
    go_returns
    exact ⟨rfl, rfl⟩
  by_cases h2 : c = 73
  · subst h2
    go_enter Tryd.func28, Tryd.ntmps28
    go_wp2
    go_returns
    exact ⟨rfl, rfl⟩
  by_cases h3 : c = 81
  · subst h3
    go_enter Tryd.func28, Tryd.ntmps28
    go_wp2
    go_returns
    exact ⟨rfl, rfl⟩
  by_cases h4 : c = 74
  · subst h4
    go_enter Tryd.func28, Tryd.ntmps28
    go_wp2
    go_returns
    exact ⟨rfl, rfl⟩
  by_cases h5 : c = 67
  · subst h5
    go_enter Tryd.func28, Tryd.ntmps28
    go_wp2
    go_returns
    exact ⟨rfl, rfl⟩
  · have hl := letO_else c h1 h2 h3 h4 h5
    go_enter Tryd.func28, Tryd.ntmps28
    go_wp2
    go_returns
    exact ⟨by rw [hl]; rfl, rfl⟩
end Go.Proofs.YtiapfhlipoomaaaDoor.Given
end
section
namespace Go.Proofs.YtiapfhlipoomaaaDoor.Given
open Go.RowKit Go.Proofs.YtiapfhlipoomaaaDoorW.PrintWords Go.Proofs.YtiapfhlipoomaaaDoorW.PrintLast Go.Proofs.YtiapfhlipoomaaaDoorW.PrintMore Go.Proofs.YtiapfhlipoomaaaDoor.Print
set_option linter.unusedVariables false
set_option linter.unusedSimpArgs false
theorem field_at (g : Nat) (c : Int) (o : Nat) (w : World) (x : S24) (lv : Value) (hb : w.heap[g]? = some (.cells (evC x lv) 24 (0, 0))) (ho : letO c = o) :
    Calls Tryd.prog 28 #[.pointer (some ⟨g, 0, none⟩), .int .u8 c] w fun e w' => e = .returned (.pointer (some ⟨g, o, none⟩)) ∧ w' = w := by
  subst ho
  exact field_any g c w x lv hb
theorem word_says (k : Nat) (h1 : 1 ≤ k) (h2 : k ≤ 11) : squintref18_word.f k = some (wordB k) := by
  obtain rfl | rfl | rfl | rfl | rfl | rfl | rfl | rfl | rfl | rfl | rfl : k = 1 ∨ k = 2 ∨ k = 3 ∨ k = 4 ∨ k = 5 ∨ k = 6 ∨ k = 7 ∨ k = 8 ∨ k = 9 ∨ k = 10 ∨ k = 11 := by omega
  all_goals kernel_rfl
theorem word_none (n : Int) (h : n < 1 ∨ 11 < n) : squintref18_word.f n = some ⟨#[]⟩ := by
  unfold squintref18_word.f
  simp only [Option.bind_some, List.length_cons, List.length_nil]
  by_cases h1 : n < 1
  · rw [if_pos h1]
  · rw [if_neg h1, if_pos (by omega)]
def shapeB : Nat → ByteArray
  | 1 => ⟨#[80, 81]⟩
  | 2 => ⟨#[80, 73, 81, 74, 67]⟩
  | 3 => ⟨#[81, 74, 78]⟩
  | 4 => ⟨#[80, 73, 78]⟩
  | 5 => ⟨#[80]⟩
  | 6 => ⟨#[80, 84]⟩
  | 7 => ⟨#[]⟩
  | 8 => ⟨#[]⟩
  | 9 => ⟨#[76]⟩
  | 10 => ⟨#[80]⟩
  | 11 => ⟨#[80, 83]⟩
  | _ => ⟨#[]⟩
theorem shape_says (k : Nat) (h1 : 1 ≤ k) (h2 : k ≤ 11) : squintref18_shape.f k = some (shapeB k) := by
  obtain rfl | rfl | rfl | rfl | rfl | rfl | rfl | rfl | rfl | rfl | rfl : k = 1 ∨ k = 2 ∨ k = 3 ∨ k = 4 ∨ k = 5 ∨ k = 6 ∨ k = 7 ∨ k = 8 ∨ k = 9 ∨ k = 10 ∨ k = 11 := by omega
  all_goals kernel_rfl
theorem shape_size (k : Nat) : (shapeB k).size ≤ 5 := by unfold shapeB; split <;> decide
set_option maxRecDepth 100000 in
theorem ref_none (x : S24) (A : Option Addr) (cap : Nat) (w : World) (hk : x.f0 < 1 ∨ 11 < x.f0) :
    Calls Tryd.prog 11 #[evV x A cap] w fun e w' => e = .returned (.int .i64 180) ∧ Below w.heap.size w w' := by
  have hu24 := Tryd.underlying24
  have HB := Aside0.mk (Below.refl w.heap.size w)
  have HW := Aside0.mk (word_none x.f0 hk)
  clear hk
  go_enter Tryd.func11, Tryd.ntmps11
  go_wp2_with (first
    | ((with_reducible refine gate_dst (N := 1) rfl ?_); refine box_event ?hg (N := 1) ?hd (cs := evC x (.slice A x.f7.length cap)) (t := 24) ?hr ?_; (case hd => rfl); (case hg => rfl); (case hr => first | (go_simp; done) | (go_simp; rfl)); intro g1 hg w1 hbox hb; have HB1 := Aside0.mk (below_step HB.out hb); clear HB; have x0 : w1.cell? ⟨g1, 0, none⟩ = some (.int .i64 x.f0) := (blk_cell hbox 0).trans rfl; clear hbox hb hg)
    | (go_at_call 26; refine (squintref18_word.calls x.f0 _ _ HW.out).mono ?_; rintro e w2 ⟨rfl, hb⟩; have HB := Aside0.mk (below_step HB1.out hb); clear hb x0))
  go_returns
  exact ⟨rfl, HB.out⟩
theorem letO_le (c : Int) : 1 ≤ letO c ∧ letO c ≤ 6 := by
  unfold letO
  split <;> omega
def clrX (x : S24) (c : Int) : S24 := if c = 76 then x else setK x 0 (letO c)
def clrL (x : S24) (l : List UInt8) : S24 := l.foldl (fun y b => clrX y b.toNat) x
def okC (x : S24) (c : Int) : Bool :=
  if c = 76 then true else if c = 78 then true
  else if c = 84 then decide (1 ≤ getK x (letO c) ∧ getK x (letO c) ≤ 5)
  else if c = 83 then decide (1 ≤ getK x (letO c) ∧ getK x (letO c) ≤ 6)
  else decide (0 ≤ getK x (letO c))
def okL (x : S24) (l : List UInt8) : Bool := l.all fun b => okC x b.toNat
def isL (l : List UInt8) : Bool := l.any fun b => decide (b.toNat = 76)
theorem okL_snoc (x : S24) (l : List UInt8) (b : UInt8) : okL x (l ++ [b]) = (okL x l && okC x b.toNat) := by simp [okL]
theorem isL_snoc (l : List UInt8) (b : UInt8) : isL (l ++ [b]) = (isL l || decide (b.toNat = 76)) := by simp [isL]
theorem clrL_snoc (x : S24) (l : List UInt8) (b : UInt8) : clrL x (l ++ [b]) = clrX (clrL x l) b.toNat := by simp [clrL]
def refK (k : Nat) (x : S24) : Int :=
  let l := (shapeB k).data.toList
  if okL x l = false then 180
  else if (clrL x l).f1 ≠ 0 ∨ (clrL x l).f2 ≠ 0 ∨ (clrL x l).f3 ≠ 0 ∨ (clrL x l).f4 ≠ 0 ∨ (clrL x l).f5 ≠ 0 ∨ (clrL x l).f6 ≠ 0 ∨ (isL l = false ∧ x.f7 ≠ []) then 180
  else if risesB x.f7 = true then 0 else 180
theorem clr_cells (y : S24) (c : Int) (o : Nat) (lv : Value) (hc : c ≠ 76) (ho : letO c = o) : (evC y lv).setIfInBounds o (.int .i64 0) = evC (clrX y c) lv := by
  subst ho
  obtain ⟨h1, h2⟩ := letO_le c
  rw [setK_cells y lv 0 _ h1 h2]
  unfold clrX
  rw [if_neg hc]
def preL (l : List Int) : Nat → Int
  | 0 => -1
  | m + 1 => l.getD m 0
theorem take_byte (s : ByteArray) (j : Nat) (h : j < s.size) : s.data.toList.take (j + 1) = s.data.toList.take j ++ [s[j]] := by
  rw [List.take_succ_eq_append_getElem (by simpa using h)]; rfl
theorem okL_bad {x : S24} {s : ByteArray} {j : Nat} {h : j < s.size} (ht : s.data.toList.take (j + 1) = s.data.toList.take j ++ [s[j]]) (hb : okC x (s[j].toNat : Int) = false) : okL x s.data.toList = false := by
  have e := List.take_append_drop (j + 1) s.data.toList
  rw [← e, ht]
  simp [okL, hb]
set_option maxRecDepth 100000 in
set_option maxHeartbeats 4000000 in
theorem ref_kind (x : S24) (k : Nat) (h1 : 1 ≤ k) (h2 : k ≤ 11) (A : Option Addr) (cap : Nat) (w : World) (hk : x.f0 = k) (hr : Kd.C (Kd.int .i64) w A x.f7.length x.f7) (hc : x.f7.length ≤ cap) :
    Calls Tryd.prog 11 #[evV x A cap] w fun e w' => e = .returned (.int .i64 (refK k x)) ∧ Below w.heap.size w w' := by
  have hu24 := Tryd.underlying24
  have HB := Aside0.mk (Below.refl w.heap.size w)
  have HK := Aside0.mk hk
  have HR := Aside0.mk hr
  have HC := Aside0.mk hc
  have HWD := Aside0.mk (word_says k h1 h2)
  have HSH := Aside0.mk (shape_says k h1 h2)
  have hne : (wordB k).toList.isEmpty = false := by
    have key : ∀ k : Fin 12, 1 ≤ k.val → (wordB k.val).toList.isEmpty = false := by decide +kernel
    exact key ⟨k, by omega⟩ h1
  have hsz := shape_size k
  obtain ⟨wd, hwd⟩ : ∃ wd, wd = wordB k := ⟨_, rfl⟩
  obtain ⟨s, hs⟩ : ∃ s, s = shapeB k := ⟨_, rfl⟩
  have HREF : Aside0 (refK k x = if okL x s.data.toList = false then 180 else if (clrL x s.data.toList).f1 ≠ 0 ∨ (clrL x s.data.toList).f2 ≠ 0 ∨ (clrL x s.data.toList).f3 ≠ 0 ∨ (clrL x s.data.toList).f4 ≠ 0 ∨ (clrL x s.data.toList).f5 ≠ 0 ∨ (clrL x s.data.toList).f6 ≠ 0 ∨ (isL s.data.toList = false ∧ x.f7 ≠ []) then 180 else if risesB x.f7 = true then 0 else 180) := ⟨by rw [hs]; rfl⟩
  rw [← hwd] at hne HWD
  rw [← hs] at HSH hsz
  clear hk hr hc hwd hs h1 h2
  generalize refK k x = res at HREF ⊢
  go_enter Tryd.func11, Tryd.ntmps11
  go_wp2_with (first
    | ((with_reducible refine gate_dst (N := 1) rfl ?_); refine box_event ?hg (N := 1) ?hd (cs := evC x (.slice A x.f7.length cap)) (t := 24) ?hr ?_; (case hd => rfl); (case hg => rfl); (case hr => first | (go_simp; done) | (go_simp; rfl)); intro g1 hg w1 hbox hb; have HB1 := Aside0.mk (below_step HB.out hb); have G1 := Aside0.mk (show w.heap.size ≤ g1 by rw [hg]; exact HB.out.size); clear HB; have HB := HB1; clear HB1; have x0 : w1.cell? ⟨g1, 0, none⟩ = some (.int .i64 k) := (blk_cell hbox 0).trans (congrArg (fun n => some (Value.int .i64 n)) HK.out); have BX := Aside0.mk hbox; clear hbox hb hg)
    | (go_at_call 26; refine (squintref18_word.calls (k : Int) _ _ HWD.out).mono ?_; rintro e w2 ⟨rfl, hb⟩; have n0_ := Aside0.mk (below_step HB.out hb); clear HB; have HB := n0_; clear n0_; have n0_ := Aside0.mk (blk_below BX.out hb); clear BX; have BX := n0_; clear n0_ hb x0; have x0 : w2.cell? ⟨g1, 0, none⟩ = some (.int .i64 k) := (blk_cell BX.out 0).trans (congrArg (fun n => some (Value.int .i64 n)) HK.out))
    | (go_at_call 27; refine (squintref18_shape.calls (k : Int) _ _ HSH.out).mono ?_; rintro e w3 ⟨rfl, hb⟩; have n0_ := Aside0.mk (below_step HB.out hb); clear HB; have HB := n0_; clear n0_; have n0_ := Aside0.mk (blk_below BX.out hb); clear BX; have BX := n0_; clear n0_ hb x0; have x0 : w3.cell? ⟨g1, 0, none⟩ = some (.int .i64 x.f0) := (blk_cell BX.out 0).trans rfl; have x1 : w3.cell? ⟨g1, 1, none⟩ = some (.int .i64 x.f1) := (blk_cell BX.out 1).trans rfl; have x2 : w3.cell? ⟨g1, 2, none⟩ = some (.int .i64 x.f2) := (blk_cell BX.out 2).trans rfl; have x3 : w3.cell? ⟨g1, 3, none⟩ = some (.int .i64 x.f3) := (blk_cell BX.out 3).trans rfl; have x4 : w3.cell? ⟨g1, 4, none⟩ = some (.int .i64 x.f4) := (blk_cell BX.out 4).trans rfl; have x5 : w3.cell? ⟨g1, 5, none⟩ = some (.int .i64 x.f5) := (blk_cell BX.out 5).trans rfl; have x6 : w3.cell? ⟨g1, 6, none⟩ = some (.int .i64 x.f6) := (blk_cell BX.out 6).trans rfl; have x7 : w3.cell? ⟨g1, 7, none⟩ = some (.slice A x.f7.length cap) := (blk_cell BX.out 7).trans rfl)
    | ((with_reducible refine gate_dst (N := 4) rfl ?_); refine box_event ?hg (N := 4) ?hd (cs := evC ⟨0, 0, 0, 0, 0, 0, 0, []⟩ (.slice none 0 0)) (t := 24) ?hr ?_; (case hd => rfl); (case hg => rfl); (case hr => first | (go_simp; done) | (go_simp; rfl)); intro g4 hg w4 hbox hb; have N4 := Aside0.mk (show g1 ≠ g4 by have := blk_lt BX.out; omega); have n0_ := Aside0.mk (below_step HB.out hb); have G4 := Aside0.mk (show w.heap.size ≤ g4 by rw [hg]; exact HB.out.size); clear HB; have HB := n0_; clear n0_; have n0_ := Aside0.mk (blk_below BX.out hb); clear BX; have BX := n0_; have BY := Aside0.mk hbox; clear n0_ hb hbox hg x0 x1 x2 x3 x4 x5 x6 x7)
    | (refine wpList_store_row rfl 24 (.tmp 4) (.tmp 18) rfl g4 (evC x (.slice A x.f7.length cap)) rfl rfl 24 _ BY.out (by kernel_rfl) rfl (by kernel_rfl) ?_; have n0_ : Aside0 ((w4.setRow g4 (evC x (.slice A x.f7.length cap))).heap[g4]? = some (.cells (evC x (.slice A x.f7.length cap)) 24 (0, 0))) := ⟨setRow_heap _ _ _ _ _ _ BY.out⟩; have n2_ : Aside0 ((w4.setRow g4 (evC x (.slice A x.f7.length cap))).heap[g1]? = some (.cells (evC x (.slice A x.f7.length cap)) 24 (0, 0))) := ⟨(setRow_other _ _ _ _ N4.out).trans BX.out⟩; have n1_ := Aside0.mk (below_setRow HB.out G4.out (evC x (.slice A x.f7.length cap))); generalize w4.setRow g4 (evC x (.slice A x.f7.length cap)) = w5 at n0_ n1_ n2_ ⊢; clear BX BY HB; have BX := n2_; have BY := n0_; have HB := n1_; clear n0_ n1_ n2_))
  clear hne HWD HSH
  go_loopw [5, 6] (fun v5 v6 wr => ∃ j : Nat, v6 = .int .i64 j ∧ j ≤ s.size ∧ v5 = .bool (isL (s.data.toList.take j)) ∧ Aside0 (okL x (s.data.toList.take j) = true) ∧ Aside0 (wr.heap[g1]? = some (.cells (evC x (.slice A x.f7.length cap)) 24 (0, 0))) ∧ Aside0 (wr.heap[g4]? = some (.cells (evC (clrL x (s.data.toList.take j)) (.slice A x.f7.length cap)) 24 (0, 0))) ∧ Aside0 (Below w.heap.size w wr)) (fun _ v6 _ => s.size - (intOf v6).toNat)
  case atStart => exact ⟨0, rfl, by omega, rfl, ⟨rfl⟩, BX, BY, HB⟩
  case round =>
    clear BX BY HB
    obtain ⟨j, rfl, hj, rfl, HOKJ, BX, BY, HB⟩ := hrel
    obtain ⟨wo, rfl⟩ : ∃ wo : World, wo = wr := ⟨_, rfl⟩
    obtain ⟨y, hy⟩ : ∃ y, y = clrL x (s.data.toList.take j) := ⟨_, rfl⟩
    have HY := Aside0.mk hy
    rw [← hy] at BY
    clear hy
    by_cases hlt : j < s.size
    · have HTK : Aside0 (s.data.toList.take (j + 1) = s.data.toList.take j ++ [s[j]]) := ⟨take_byte s j hlt⟩
      have HCL : Aside0 (clrX y (s[j].toNat : Int) = clrL x (s.data.toList.take (j + 1))) := ⟨by rw [HTK.out, clrL_snoc, HY.out]⟩
      obtain ⟨o, ho⟩ : ∃ o, letO (s[j].toNat : Int) = o := ⟨_, rfl⟩
      have hob : 1 ≤ o ∧ o ≤ 6 := by rw [← ho]; exact letO_le _
      have HO := Aside0.mk ho
      have q : wo.cell? ⟨g1, o, none⟩ = some (.int .i64 (getK x o)) := (blk_cell BX.out o).trans (ev_get x _ o hob.1 hob.2)
      have hz : wo.frozen? ⟨g4, o, none⟩ = false := blk_frozen BY.out o
      have yq : wo.cell? ⟨g4, o, none⟩ = some (.int .i64 (getK y o)) := (blk_cell BY.out o).trans (ev_get y _ o hob.1 hob.2)
      have HOB := Aside0.mk hob
      obtain ⟨n, hn⟩ : ∃ n, n = getK x o := ⟨_, rfl⟩
      have HN := Aside0.mk hn
      rw [← hn] at q
      clear ho hn hob
      by_cases e76 : s[j].toNat = 76
      · have HIS : Aside0 (isL (s.data.toList.take (j + 1)) = true) := ⟨by rw [HTK.out, isL_snoc, decide_eq_true e76, Bool.or_true]⟩
        have HOKS : Aside0 (okL x (s.data.toList.take (j + 1)) = true) := ⟨by rw [HTK.out, okL_snoc, HOKJ.out, Bool.true_and]; unfold okC; rw [if_pos (by omega)]⟩
        have HCY : Aside0 (clrL x (s.data.toList.take (j + 1)) = y) := ⟨by rw [← HCL.out]; unfold clrX; rw [if_pos (by omega)]⟩
        have e : ((s[j].toNat : Int) == 76) = true := by simp; omega
        clear e76
        go_wp2_with (fail)
        go_roundw
        case rel => exact ⟨j + 1, by go_num, by omega, by rw [HIS.out], HOKS, BX, ⟨by rw [HCY.out]; exact BY.out⟩, HB⟩
        case measure => simp [intOf]; omega
      have HNE : Aside0 ((s[j].toNat : Int) ≠ 76) := ⟨by omega⟩
      have HIS : Aside0 (isL (s.data.toList.take (j + 1)) = isL (s.data.toList.take j)) := ⟨by rw [HTK.out, isL_snoc, decide_eq_false e76, Bool.or_false]⟩
      by_cases e78 : s[j].toNat = 78
      · have HOKS : Aside0 (okL x (s.data.toList.take (j + 1)) = true) := ⟨by rw [HTK.out, okL_snoc, HOKJ.out, Bool.true_and]; unfold okC; rw [if_neg (by omega), if_pos (by omega)]⟩
        have HO2 : Aside0 (letO 78 = o) := ⟨by have := HO.out; rw [e78] at this; exact this⟩
        have e76 : ((s[j].toNat : Int) == 76) = false := by simp; omega
        have e78 : ((s[j].toNat : Int) == 78) = true := by simp; omega
        have e84 : ((s[j].toNat : Int) == 84) = false := by simp; omega
        have e83 : ((s[j].toNat : Int) == 83) = false := by simp; omega
        have M1 := Aside0.mk True.intro
        go_wp2_with (first
          | (go_at_call 28; clear M1; refine (field_at g1 78 o _ x (.slice A x.f7.length cap) BX.out HO2.out).mono ?_; rintro e w6 ⟨rfl, hw⟩; rw [hw]; clear hw w6)
          | (go_at_call 28; refine (field_at g4 78 o _ y (.slice A x.f7.length cap) BY.out HO2.out).mono ?_; rintro e w6 ⟨rfl, hw⟩; rw [hw]; clear hw w6))
        go_roundw
        case rel => exact ⟨j + 1, by go_num, by omega, by rw [HIS.out], HOKS, ⟨(Below.heap_setCell wo _ _ g1 N4.out).trans BX.out⟩, ⟨(blk_set BY.out _ _).trans (by rw [clr_cells y _ o _ HNE.out HO.out, HCL.out])⟩, ⟨below_set HB.out G4.out⟩⟩
        case measure => simp [intOf]; omega
      by_cases e84 : s[j].toNat = 84
      · by_cases n1 : 1 ≤ n
        rotate_left
        · replace n1 : n < 1 := by omega
          have HBAD : Aside0 (okL x s.data.toList = false) := ⟨okL_bad HTK.out (by unfold okC; rw [if_neg (by omega), if_neg (by omega), if_pos (by omega), HO.out, ← HN.out]; exact decide_eq_false (by omega))⟩
          have HO2 : Aside0 (letO 84 = o) := ⟨by have := HO.out; rw [e84] at this; exact this⟩
          have e76 : ((s[j].toNat : Int) == 76) = false := by simp; omega
          have e78 : ((s[j].toNat : Int) == 78) = false := by simp; omega
          have e84 : ((s[j].toNat : Int) == 84) = true := by simp; omega
          have e83 : ((s[j].toNat : Int) == 83) = false := by simp; omega
          have M1 := Aside0.mk True.intro
          go_wp2_with (first
            | (go_at_call 28; clear M1; refine (field_at g1 84 o _ x (.slice A x.f7.length cap) BX.out HO2.out).mono ?_; rintro e w6 ⟨rfl, hw⟩; rw [hw]; clear hw w6)
            | (go_at_call 28; refine (field_at g4 84 o _ y (.slice A x.f7.length cap) BY.out HO2.out).mono ?_; rintro e w6 ⟨rfl, hw⟩; rw [hw]; clear hw w6)
            | (go_at_call 29; refine (squintref18_traps.calls _ _ rfl).mono ?_; rintro e w7 ⟨v7, rfl, hR, hb⟩; obtain ⟨At, ct, rfl⟩ := Kd.R_slice hR; have n0_ := Aside0.mk (below_step HB.out hb); have n1_ := Aside0.mk (blk_below BX.out hb); have n2_ := Aside0.mk (blk_below BY.out hb); clear HB BX BY hR hb q hz yq; have HB := n0_; have BX := n1_; have BY := n2_; clear n0_ n1_ n2_; have hz : w7.frozen? ⟨g4, o, none⟩ = false := blk_frozen BY.out o; have yq : w7.cell? ⟨g4, o, none⟩ = some (.int .i64 (getK y o)) := (blk_cell BY.out o).trans (ev_get y _ o HOB.out.1 HOB.out.2)))
          go_returns
          refine ⟨?_, HB.out⟩
          rw [HREF.out, if_pos HBAD.out]
          rfl
        by_cases n2 : n ≤ 5
        rotate_left
        · have d2 : decide (n ≤ 5) = false := decide_eq_false n2
          replace n2 : 5 < n := by omega
          have HBAD : Aside0 (okL x s.data.toList = false) := ⟨okL_bad HTK.out (by unfold okC; rw [if_neg (by omega), if_neg (by omega), if_pos (by omega), HO.out, ← HN.out]; exact decide_eq_false (by omega))⟩
          have HO2 : Aside0 (letO 84 = o) := ⟨by have := HO.out; rw [e84] at this; exact this⟩
          have e76 : ((s[j].toNat : Int) == 76) = false := by simp; omega
          have e78 : ((s[j].toNat : Int) == 78) = false := by simp; omega
          have e84 : ((s[j].toNat : Int) == 84) = true := by simp; omega
          have e83 : ((s[j].toNat : Int) == 83) = false := by simp; omega
          have M1 := Aside0.mk True.intro
          go_wp2_with (first
            | (go_at_call 28; clear M1; refine (field_at g1 84 o _ x (.slice A x.f7.length cap) BX.out HO2.out).mono ?_; rintro e w6 ⟨rfl, hw⟩; rw [hw]; clear hw w6)
            | (go_at_call 28; refine (field_at g4 84 o _ y (.slice A x.f7.length cap) BY.out HO2.out).mono ?_; rintro e w6 ⟨rfl, hw⟩; rw [hw]; clear hw w6)
            | (go_at_call 29; refine (squintref18_traps.calls _ _ rfl).mono ?_; rintro e w7 ⟨v7, rfl, hR, hb⟩; obtain ⟨At, ct, rfl⟩ := Kd.R_slice hR; have n0_ := Aside0.mk (below_step HB.out hb); have n1_ := Aside0.mk (blk_below BX.out hb); have n2_ := Aside0.mk (blk_below BY.out hb); clear HB BX BY hR hb q hz yq; have HB := n0_; have BX := n1_; have BY := n2_; clear n0_ n1_ n2_; have hz : w7.frozen? ⟨g4, o, none⟩ = false := blk_frozen BY.out o; have yq : w7.cell? ⟨g4, o, none⟩ = some (.int .i64 (getK y o)) := (blk_cell BY.out o).trans (ev_get y _ o HOB.out.1 HOB.out.2)))
          go_returns
          refine ⟨?_, HB.out⟩
          rw [HREF.out, if_pos HBAD.out]
          rfl
        have HOKS : Aside0 (okL x (s.data.toList.take (j + 1)) = true) := ⟨by rw [HTK.out, okL_snoc, HOKJ.out, Bool.true_and]; unfold okC; rw [if_neg (by omega), if_neg (by omega), if_pos (by omega), HO.out, ← HN.out]; exact decide_eq_true (by omega)⟩
        have HO2 : Aside0 (letO 84 = o) := ⟨by have := HO.out; rw [e84] at this; exact this⟩
        have e76 : ((s[j].toNat : Int) == 76) = false := by simp; omega
        have e78 : ((s[j].toNat : Int) == 78) = false := by simp; omega
        have e84 : ((s[j].toNat : Int) == 84) = true := by simp; omega
        have e83 : ((s[j].toNat : Int) == 83) = false := by simp; omega
        have M1 := Aside0.mk True.intro
        go_wp2_with (first
          | (go_at_call 28; clear M1; refine (field_at g1 84 o _ x (.slice A x.f7.length cap) BX.out HO2.out).mono ?_; rintro e w6 ⟨rfl, hw⟩; rw [hw]; clear hw w6)
          | (go_at_call 28; refine (field_at g4 84 o _ y (.slice A x.f7.length cap) BY.out HO2.out).mono ?_; rintro e w6 ⟨rfl, hw⟩; rw [hw]; clear hw w6)
          | (go_at_call 29; refine (squintref18_traps.calls _ _ rfl).mono ?_; rintro e w7 ⟨v7, rfl, hR, hb⟩; obtain ⟨At, ct, rfl⟩ := Kd.R_slice hR; have n0_ := Aside0.mk (below_step HB.out hb); have n1_ := Aside0.mk (blk_below BX.out hb); have n2_ := Aside0.mk (blk_below BY.out hb); clear HB BX BY hR hb q hz yq; have HB := n0_; have BX := n1_; have BY := n2_; clear n0_ n1_ n2_; have hz : w7.frozen? ⟨g4, o, none⟩ = false := blk_frozen BY.out o; have yq : w7.cell? ⟨g4, o, none⟩ = some (.int .i64 (getK y o)) := (blk_cell BY.out o).trans (ev_get y _ o HOB.out.1 HOB.out.2)))
        go_roundw
        case rel => exact ⟨j + 1, by go_num, by omega, by rw [HIS.out], HOKS, ⟨(Below.heap_setCell w7 _ _ g1 N4.out).trans BX.out⟩, ⟨(blk_set BY.out _ _).trans (by rw [clr_cells y _ o _ HNE.out HO.out, HCL.out])⟩, ⟨below_set HB.out G4.out⟩⟩
        case measure => simp [intOf]; omega
      by_cases e83 : s[j].toNat = 83
      · by_cases n1 : 1 ≤ n
        rotate_left
        · replace n1 : n < 1 := by omega
          have HBAD : Aside0 (okL x s.data.toList = false) := ⟨okL_bad HTK.out (by unfold okC; rw [if_neg (by omega), if_neg (by omega), if_neg (by omega), if_pos (by omega), HO.out, ← HN.out]; exact decide_eq_false (by omega))⟩
          have HO2 : Aside0 (letO 83 = o) := ⟨by have := HO.out; rw [e83] at this; exact this⟩
          have e76 : ((s[j].toNat : Int) == 76) = false := by simp; omega
          have e78 : ((s[j].toNat : Int) == 78) = false := by simp; omega
          have e84 : ((s[j].toNat : Int) == 84) = false := by simp; omega
          have e83 : ((s[j].toNat : Int) == 83) = true := by simp; omega
          have M1 := Aside0.mk True.intro
          go_wp2_with (first
            | (go_at_call 28; clear M1; refine (field_at g1 83 o _ x (.slice A x.f7.length cap) BX.out HO2.out).mono ?_; rintro e w6 ⟨rfl, hw⟩; rw [hw]; clear hw w6)
            | (go_at_call 28; refine (field_at g4 83 o _ y (.slice A x.f7.length cap) BY.out HO2.out).mono ?_; rintro e w6 ⟨rfl, hw⟩; rw [hw]; clear hw w6)
            | (go_at_call 30; refine (squintref18_counters.calls _ _ rfl).mono ?_; rintro e w7 ⟨v7, rfl, hR, hb⟩; obtain ⟨At, ct, rfl⟩ := Kd.R_slice hR; have n0_ := Aside0.mk (below_step HB.out hb); have n1_ := Aside0.mk (blk_below BX.out hb); have n2_ := Aside0.mk (blk_below BY.out hb); clear HB BX BY hR hb q hz yq; have HB := n0_; have BX := n1_; have BY := n2_; clear n0_ n1_ n2_; have hz : w7.frozen? ⟨g4, o, none⟩ = false := blk_frozen BY.out o; have yq : w7.cell? ⟨g4, o, none⟩ = some (.int .i64 (getK y o)) := (blk_cell BY.out o).trans (ev_get y _ o HOB.out.1 HOB.out.2)))
          go_returns
          refine ⟨?_, HB.out⟩
          rw [HREF.out, if_pos HBAD.out]
          rfl
        by_cases n2 : n ≤ 6
        rotate_left
        · have d2 : decide (n ≤ 6) = false := decide_eq_false n2
          replace n2 : 6 < n := by omega
          have HBAD : Aside0 (okL x s.data.toList = false) := ⟨okL_bad HTK.out (by unfold okC; rw [if_neg (by omega), if_neg (by omega), if_neg (by omega), if_pos (by omega), HO.out, ← HN.out]; exact decide_eq_false (by omega))⟩
          have HO2 : Aside0 (letO 83 = o) := ⟨by have := HO.out; rw [e83] at this; exact this⟩
          have e76 : ((s[j].toNat : Int) == 76) = false := by simp; omega
          have e78 : ((s[j].toNat : Int) == 78) = false := by simp; omega
          have e84 : ((s[j].toNat : Int) == 84) = false := by simp; omega
          have e83 : ((s[j].toNat : Int) == 83) = true := by simp; omega
          have M1 := Aside0.mk True.intro
          go_wp2_with (first
            | (go_at_call 28; clear M1; refine (field_at g1 83 o _ x (.slice A x.f7.length cap) BX.out HO2.out).mono ?_; rintro e w6 ⟨rfl, hw⟩; rw [hw]; clear hw w6)
            | (go_at_call 28; refine (field_at g4 83 o _ y (.slice A x.f7.length cap) BY.out HO2.out).mono ?_; rintro e w6 ⟨rfl, hw⟩; rw [hw]; clear hw w6)
            | (go_at_call 30; refine (squintref18_counters.calls _ _ rfl).mono ?_; rintro e w7 ⟨v7, rfl, hR, hb⟩; obtain ⟨At, ct, rfl⟩ := Kd.R_slice hR; have n0_ := Aside0.mk (below_step HB.out hb); have n1_ := Aside0.mk (blk_below BX.out hb); have n2_ := Aside0.mk (blk_below BY.out hb); clear HB BX BY hR hb q hz yq; have HB := n0_; have BX := n1_; have BY := n2_; clear n0_ n1_ n2_; have hz : w7.frozen? ⟨g4, o, none⟩ = false := blk_frozen BY.out o; have yq : w7.cell? ⟨g4, o, none⟩ = some (.int .i64 (getK y o)) := (blk_cell BY.out o).trans (ev_get y _ o HOB.out.1 HOB.out.2)))
          go_returns
          refine ⟨?_, HB.out⟩
          rw [HREF.out, if_pos HBAD.out]
          rfl
        have HOKS : Aside0 (okL x (s.data.toList.take (j + 1)) = true) := ⟨by rw [HTK.out, okL_snoc, HOKJ.out, Bool.true_and]; unfold okC; rw [if_neg (by omega), if_neg (by omega), if_neg (by omega), if_pos (by omega), HO.out, ← HN.out]; exact decide_eq_true (by omega)⟩
        have HO2 : Aside0 (letO 83 = o) := ⟨by have := HO.out; rw [e83] at this; exact this⟩
        have e76 : ((s[j].toNat : Int) == 76) = false := by simp; omega
        have e78 : ((s[j].toNat : Int) == 78) = false := by simp; omega
        have e84 : ((s[j].toNat : Int) == 84) = false := by simp; omega
        have e83 : ((s[j].toNat : Int) == 83) = true := by simp; omega
        have M1 := Aside0.mk True.intro
        go_wp2_with (first
          | (go_at_call 28; clear M1; refine (field_at g1 83 o _ x (.slice A x.f7.length cap) BX.out HO2.out).mono ?_; rintro e w6 ⟨rfl, hw⟩; rw [hw]; clear hw w6)
          | (go_at_call 28; refine (field_at g4 83 o _ y (.slice A x.f7.length cap) BY.out HO2.out).mono ?_; rintro e w6 ⟨rfl, hw⟩; rw [hw]; clear hw w6)
          | (go_at_call 30; refine (squintref18_counters.calls _ _ rfl).mono ?_; rintro e w7 ⟨v7, rfl, hR, hb⟩; obtain ⟨At, ct, rfl⟩ := Kd.R_slice hR; have n0_ := Aside0.mk (below_step HB.out hb); have n1_ := Aside0.mk (blk_below BX.out hb); have n2_ := Aside0.mk (blk_below BY.out hb); clear HB BX BY hR hb q hz yq; have HB := n0_; have BX := n1_; have BY := n2_; clear n0_ n1_ n2_; have hz : w7.frozen? ⟨g4, o, none⟩ = false := blk_frozen BY.out o; have yq : w7.cell? ⟨g4, o, none⟩ = some (.int .i64 (getK y o)) := (blk_cell BY.out o).trans (ev_get y _ o HOB.out.1 HOB.out.2)))
        go_roundw
        case rel => exact ⟨j + 1, by go_num, by omega, by rw [HIS.out], HOKS, ⟨(Below.heap_setCell w7 _ _ g1 N4.out).trans BX.out⟩, ⟨(blk_set BY.out _ _).trans (by rw [clr_cells y _ o _ HNE.out HO.out, HCL.out])⟩, ⟨below_set HB.out G4.out⟩⟩
        case measure => simp [intOf]; omega
      by_cases n1 : 0 ≤ n
      rotate_left
      · have d1 : decide (0 ≤ n) = false := decide_eq_false n1
        replace n1 : n < 0 := by omega
        have HBAD : Aside0 (okL x s.data.toList = false) := ⟨okL_bad HTK.out (by unfold okC; rw [if_neg (by omega), if_neg (by omega), if_neg (by omega), if_neg (by omega), HO.out, ← HN.out]; exact decide_eq_false (by omega))⟩
        have e76 : ((s[j].toNat : Int) == 76) = false := by simp; omega
        have e78 : ((s[j].toNat : Int) == 78) = false := by simp; omega
        have e84 : ((s[j].toNat : Int) == 84) = false := by simp; omega
        have e83 : ((s[j].toNat : Int) == 83) = false := by simp; omega
        have M1 := Aside0.mk True.intro
        go_wp2_with (first
          | (go_at_call 28; clear M1; refine (field_at g1 _ o _ x (.slice A x.f7.length cap) BX.out HO.out).mono ?_; rintro e w6 ⟨rfl, hw⟩; rw [hw]; clear hw w6)
          | (go_at_call 28; refine (field_at g4 _ o _ y (.slice A x.f7.length cap) BY.out HO.out).mono ?_; rintro e w6 ⟨rfl, hw⟩; rw [hw]; clear hw w6))
        go_returns
        refine ⟨?_, HB.out⟩
        rw [HREF.out, if_pos HBAD.out]
        rfl
      have HOKS : Aside0 (okL x (s.data.toList.take (j + 1)) = true) := ⟨by rw [HTK.out, okL_snoc, HOKJ.out, Bool.true_and]; unfold okC; rw [if_neg (by omega), if_neg (by omega), if_neg (by omega), if_neg (by omega), HO.out, ← HN.out]; exact decide_eq_true (by omega)⟩
      have e76 : ((s[j].toNat : Int) == 76) = false := by simp; omega
      have e78 : ((s[j].toNat : Int) == 78) = false := by simp; omega
      have e84 : ((s[j].toNat : Int) == 84) = false := by simp; omega
      have e83 : ((s[j].toNat : Int) == 83) = false := by simp; omega
      have M1 := Aside0.mk True.intro
      go_wp2_with (first
        | (go_at_call 28; clear M1; refine (field_at g1 _ o _ x (.slice A x.f7.length cap) BX.out HO.out).mono ?_; rintro e w6 ⟨rfl, hw⟩; rw [hw]; clear hw w6)
        | (go_at_call 28; refine (field_at g4 _ o _ y (.slice A x.f7.length cap) BY.out HO.out).mono ?_; rintro e w6 ⟨rfl, hw⟩; rw [hw]; clear hw w6))
      go_roundw
      case rel => exact ⟨j + 1, by go_num, by omega, by rw [HIS.out], HOKS, ⟨(Below.heap_setCell wo _ _ g1 N4.out).trans BX.out⟩, ⟨(blk_set BY.out _ _).trans (by rw [clr_cells y _ o _ HNE.out HO.out, HCL.out])⟩, ⟨below_set HB.out G4.out⟩⟩
      case measure => simp [intOf]; omega
    · obtain rfl : j = s.size := by omega
      rw [List.take_of_length_le (by simp)] at HOKJ HY
      have HREF2 : Aside0 (res = if y.f1 ≠ 0 ∨ y.f2 ≠ 0 ∨ y.f3 ≠ 0 ∨ y.f4 ≠ 0 ∨ y.f5 ≠ 0 ∨ y.f6 ≠ 0 ∨ (isL s.data.toList = false ∧ x.f7 ≠ []) then 180 else if risesB x.f7 = true then 0 else 180) := ⟨by rw [HREF.out, HOKJ.out, HY.out]; rfl⟩
      rw [List.take_of_length_le (by simp)]
      obtain ⟨bl, hbl⟩ : ∃ bl, bl = isL s.data.toList := ⟨_, rfl⟩
      rw [← hbl] at HREF2 ⊢
      clear hbl HREF HY HOKJ
      have y1 : wo.cell? ⟨g4, 1, none⟩ = some (.int .i64 y.f1) := (blk_cell BY.out 1).trans rfl
      have y2 : wo.cell? ⟨g4, 2, none⟩ = some (.int .i64 y.f2) := (blk_cell BY.out 2).trans rfl
      have y3 : wo.cell? ⟨g4, 3, none⟩ = some (.int .i64 y.f3) := (blk_cell BY.out 3).trans rfl
      have y4 : wo.cell? ⟨g4, 4, none⟩ = some (.int .i64 y.f4) := (blk_cell BY.out 4).trans rfl
      have y5 : wo.cell? ⟨g4, 5, none⟩ = some (.int .i64 y.f5) := (blk_cell BY.out 5).trans rfl
      have y6 : wo.cell? ⟨g4, 6, none⟩ = some (.int .i64 y.f6) := (blk_cell BY.out 6).trans rfl
      have x7 : wo.cell? ⟨g1, 7, none⟩ = some (.slice A x.f7.length cap) := (blk_cell BX.out 7).trans rfl
      by_cases z1 : y.f1 = 0
      rotate_left
      · have b1 : (y.f1 == 0) = false := by simpa using z1
        go_wp2_with (fail)
        go_returns
        refine ⟨?_, HB.out⟩
        rw [HREF2.out, if_pos (by simp [z1])]
        rfl
      by_cases z2 : y.f2 = 0
      rotate_left
      · have b2 : (y.f2 == 0) = false := by simpa using z2
        go_wp2_with (fail)
        go_returns
        refine ⟨?_, HB.out⟩
        rw [HREF2.out, if_pos (by simp [z2])]
        rfl
      by_cases z3 : y.f3 = 0
      rotate_left
      · have b3 : (y.f3 == 0) = false := by simpa using z3
        go_wp2_with (fail)
        go_returns
        refine ⟨?_, HB.out⟩
        rw [HREF2.out, if_pos (by simp [z3])]
        rfl
      by_cases z4 : y.f4 = 0
      rotate_left
      · have b4 : (y.f4 == 0) = false := by simpa using z4
        go_wp2_with (fail)
        go_returns
        refine ⟨?_, HB.out⟩
        rw [HREF2.out, if_pos (by simp [z4])]
        rfl
      by_cases z5 : y.f5 = 0
      rotate_left
      · have b5 : (y.f5 == 0) = false := by simpa using z5
        go_wp2_with (fail)
        go_returns
        refine ⟨?_, HB.out⟩
        rw [HREF2.out, if_pos (by simp [z5])]
        rfl
      by_cases z6 : y.f6 = 0
      rotate_left
      · have b6 : (y.f6 == 0) = false := by simpa using z6
        go_wp2_with (fail)
        go_returns
        refine ⟨?_, HB.out⟩
        rw [HREF2.out, if_pos (by simp [z6])]
        rfl
      rcases bl with _ | _
      · by_cases z7 : x.f7.length = 0
        rotate_left
        · have b7 : decide (0 < (x.f7.length : Int)) = true := decide_eq_true (by omega)
          have e7 : Aside0 (x.f7 ≠ []) := ⟨fun h => z7 (by rw [h]; rfl)⟩
          go_wp2_with (fail)
          go_returns
          refine ⟨?_, HB.out⟩
          rw [HREF2.out, if_pos (by simp [e7.out])]
          rfl
        have e7 : Aside0 (x.f7 = []) := ⟨List.eq_nil_of_length_eq_zero z7⟩
        have b7 : decide (0 < (x.f7.length : Int)) = false := decide_eq_false (by omega)
        have HREF3 : Aside0 (res = 0) := ⟨by rw [HREF2.out, if_neg (by simp [z1, z2, z3, z4, z5, z6, e7.out]), if_pos (by rw [e7.out]; rfl)]⟩
        go_wp2_with (fail)
        go_loopw [10] (fun v10 wr => v10 = .int .i64 0 ∧ wr = wo) (fun _ _ => 0)
        case atStart => first | exact ⟨rfl, rfl⟩ | (refine ⟨?_, ?_⟩ <;> rfl)
        case round =>
          obtain ⟨rfl, rfl⟩ := hrel
          go_wp2_with (fail)
          go_returns
          refine ⟨?_, HB.out⟩
          rw [HREF3.out]
          rfl
      · have HREF3 : Aside0 (res = if risesB x.f7 = true then 0 else 180) := ⟨by rw [HREF2.out, if_neg (by simp [z1, z2, z3, z4, z5, z6])]⟩
        go_wp2_with (fail)
        clear HREF2 BY y1 y2 y3 y4 y5 y6 z1 z2 z3 z4 z5 z6 x7
        have hlm := HR.out.2.1
        obtain ⟨l, hl⟩ : ∃ l, l = x.f7 := ⟨_, rfl⟩
        go_loopw [10] (fun v10 wr => ∃ i : Nat, v10 = .int .i64 i ∧ i ≤ x.f7.length ∧ Aside0 (risesB x.f7 = risesFrom (preL x.f7 i) (x.f7.drop i) ∧ -1 ≤ preL x.f7 i) ∧ Aside0 (wr.heap[g1]? = some (.cells (evC x (.slice A x.f7.length cap)) 24 (0, 0))) ∧ Aside0 (Below w.heap.size w wr)) (fun v10 _ => x.f7.length - (intOf v10).toNat)
        case atStart => exact ⟨0, rfl, by omega, ⟨rfl, show (-1 : Int) ≤ -1 by decide⟩, BX, HB⟩
        case round =>
          clear BX HB
          obtain ⟨i, rfl, hi, HP, BX, HB⟩ := hrel
          obtain ⟨wk, rfl⟩ : ∃ wk : World, wk = wr := ⟨_, rfl⟩
          have x7 : wk.cell? ⟨g1, 7, none⟩ = some (.slice A x.f7.length cap) := (blk_cell BX.out 7).trans rfl
          by_cases hil : i < x.f7.length
          · obtain ⟨ad, hA, hcell⟩ := Kd.at_int HR.out (i : Int) (by omega) (by omega)
            subst hA
            have hv := pw_cell_below HB.out hcell
            rw [Int.toNat_natCast] at hv
            obtain ⟨a, ha⟩ : ∃ a, a = rd x.f7 (i : Int) := ⟨_, rfl⟩
            rw [← ha] at hv hcell
            have HA := Aside0.mk (show a = x.f7[i] by rw [ha]; simp [rd, hil])
            clear ha hcell
            have HST : Aside0 (risesB x.f7 = (decide (preL x.f7 i < a) && risesFrom a (x.f7.drop (i + 1)))) := ⟨by rw [HP.out.1, List.drop_eq_getElem_cons hil, HA.out]; rfl⟩
            have HPN : Aside0 (preL x.f7 (i + 1) = a) := ⟨by rw [HA.out]; simp [preL, hil]⟩
            by_cases hneg : a < 0
            · have d1 : decide (a < 0) = true := decide_eq_true hneg
              have HRES : Aside0 (res = 180) := ⟨by rw [HREF3.out, HST.out, decide_eq_false (by have := HP.out.2; omega)]; rfl⟩
              go_wp2_with (fail)
              go_quiet (fail)
              go_wp2_with (fail)
              go_returns
              refine ⟨?_, pw_below_drewN HB.out _⟩
              rw [HRES.out]
              rfl
            have d1 : decide (a < 0) = false := decide_eq_false hneg
            replace hneg : 0 ≤ a := by omega
            by_cases hi0 : 0 < i
            rotate_left
            · have d3 : decide (0 < (i : Int)) = false := decide_eq_false (by omega)
              have HI0 : Aside0 (i = 0) := ⟨by omega⟩
              have HGO : Aside0 (risesB x.f7 = risesFrom (preL x.f7 (i + 1)) (x.f7.drop (i + 1)) ∧ -1 ≤ preL x.f7 (i + 1)) := ⟨by rw [HST.out, HPN.out, decide_eq_true (show preL x.f7 i < a by rw [HI0.out]; show -1 < a; omega), Bool.true_and], by rw [HPN.out]; omega⟩
              go_wp2_with (fail)
              go_quiet (fail)
              go_wp2_with (fail)
              go_roundw
              case rel => exact ⟨i + 1, by go_num, by omega, HGO, ⟨BX.out⟩, ⟨pw_below_drewN HB.out _⟩⟩
              case measure => simp [intOf]; omega
            · have d3 : decide (0 < (i : Int)) = true := decide_eq_true (by omega)
              obtain ⟨ad2, hA2, hcell⟩ := Kd.at_int HR.out ((i : Int) - 1) (by omega) (by omega)
              cases hA2
              have hp := pw_cell_below HB.out hcell
              obtain ⟨p, hpp⟩ : ∃ p, p = rd x.f7 ((i : Int) - 1) := ⟨_, rfl⟩
              rw [← hpp] at hp hcell
              have HPP : Aside0 (preL x.f7 i = p) := ⟨by
                obtain ⟨m, rfl⟩ : ∃ m, i = m + 1 := ⟨i - 1, by omega⟩
                rw [hpp, show ((m + 1 : Nat) : Int) - 1 = (m : Int) by omega]
                simp [preL, rd, show m < x.f7.length by omega]⟩
              clear hpp hcell
              obtain ⟨q, hq⟩ : ∃ q : Nat, ((i : Int) - 1).toNat = q := ⟨_, rfl⟩
              rw [hq] at hp
              by_cases hpa : a ≤ p
              · have HRES : Aside0 (res = 180) := ⟨by rw [HREF3.out, HST.out, HPP.out, decide_eq_false (by omega)]; rfl⟩
                have d2 : decide (a ≤ p) = true := decide_eq_true hpa
                have e1 : IntKind.i64.wrap ((i : Int) - 1) = (i : Int) - 1 := IntWalk.i64_in _ (by omega)
                have e2 : 0 ≤ (i : Int) - 1 := by omega
                have e3 : (i : Int) - 1 < (x.f7.length : Int) := by omega
                go_wp2_with (fail)
                go_quiet (fail)
                go_wp2_with (fail)
                go_returns
                refine ⟨?_, pw_below_drewN HB.out _⟩
                rw [HRES.out]
                rfl
              · have HGO : Aside0 (risesB x.f7 = risesFrom (preL x.f7 (i + 1)) (x.f7.drop (i + 1)) ∧ -1 ≤ preL x.f7 (i + 1)) := ⟨by rw [HST.out, HPN.out, HPP.out, decide_eq_true (show p < a by omega), Bool.true_and], by rw [HPN.out]; omega⟩
                have d2 : decide (a ≤ p) = false := decide_eq_false hpa
                have e1 : IntKind.i64.wrap ((i : Int) - 1) = (i : Int) - 1 := IntWalk.i64_in _ (by omega)
                have e2 : 0 ≤ (i : Int) - 1 := by omega
                have e3 : (i : Int) - 1 < (x.f7.length : Int) := by omega
                go_wp2_with (fail)
                go_quiet (fail)
                go_wp2_with (fail)
                go_roundw
                case rel => exact ⟨i + 1, by go_num, by omega, HGO, ⟨BX.out⟩, ⟨pw_below_drewN HB.out _⟩⟩
                case measure => simp [intOf]; omega
          · obtain rfl : i = x.f7.length := by omega
            have HRES : Aside0 (res = 0) := ⟨by rw [HREF3.out, HP.out.1, List.drop_length]; rfl⟩
            go_wp2_with (fail)
            go_returns
            refine ⟨?_, HB.out⟩
            rw [HRES.out]
            rfl
end Go.Proofs.YtiapfhlipoomaaaDoor.Given
end
section
namespace Go.Proofs.YtiapfhlipoomaaaDoor.Given
open Go.RowKit Go.Proofs.YtiapfhlipoomaaaDoorW.PrintWords Go.Proofs.YtiapfhlipoomaaaDoorW.PrintLast Go.Proofs.YtiapfhlipoomaaaDoorW.PrintMore Go.Proofs.YtiapfhlipoomaaaDoor.Print
set_option linter.unusedVariables false
set_option linter.unusedSimpArgs false
theorem ref_check (k : Nat) (h1 : 1 ≤ k) (h2 : k ≤ 11) (x : S24) : refK k x = checkK k x := by
  have e0 : risesB [] = true := rfl
  obtain ⟨x0, x1, x2, x3, x4, x5, x6, x7⟩ := x
  obtain rfl | rfl | rfl | rfl | rfl | rfl | rfl | rfl | rfl | rfl | rfl : k = 1 ∨ k = 2 ∨ k = 3 ∨ k = 4 ∨ k = 5 ∨ k = 6 ∨ k = 7 ∨ k = 8 ∨ k = 9 ∨ k = 10 ∨ k = 11 := by omega
  all_goals
    unfold refK checkK
    have key : ∀ (p q r s : Prop) [Decidable p] [Decidable q] [Decidable r] [Decidable s], (s ↔ (¬ p ∧ ¬ q ∧ r)) → (if p then (180 : Int) else if q then 180 else if r then 0 else 180) = if s then 0 else 180 := by
      intro p q r s _ _ _ _ h
      by_cases hp : p <;> by_cases hq : q <;> by_cases hr : r <;> by_cases hs : s <;> simp_all
    refine key _ _ _ _ ?_
    simp only [shapeB, okL, okC, clrL, clrX, letO, setK, getK, isL, okK, List.all_cons, List.all_nil, List.any_cons, List.any_nil, List.foldl_cons, List.foldl_nil]
    by_cases h7 : x7 = []
    · subst h7
      simp [e0]
      try omega
    · simp [h7]
      try omega
theorem ref_any (x : S24) (A : Option Addr) (cap : Nat) (w : World) (hr : Kd.C (Kd.int .i64) w A x.f7.length x.f7) (hc : x.f7.length ≤ cap) :
    Calls Tryd.prog 11 #[evV x A cap] w fun e w' => e = .returned (.int .i64 (checkOf x)) ∧ Below w.heap.size w w' := by
  by_cases hk : 1 ≤ x.f0 ∧ x.f0 ≤ 11
  · obtain ⟨k, hkk⟩ : ∃ k : Nat, x.f0 = k := ⟨x.f0.toNat, by omega⟩
    have hco : checkOf x = refK k x := by unfold checkOf; rw [if_pos hk, hkk, Int.toNat_natCast, ref_check k (by omega) (by omega)]
    rw [hco]
    exact ref_kind x k (by omega) (by omega) A cap w hkk hr hc
  · have hco : checkOf x = 180 := by unfold checkOf; rw [if_neg hk]
    rw [hco]
    exact ref_none x A cap w (by omega)
end Go.Proofs.YtiapfhlipoomaaaDoor.Given
end
section
namespace Go.Proofs.YtiapfhlipoomaaaDoor.Given
open Go.RowKit Go.Proofs.YtiapfhlipoomaaaDoorW.PrintWords Go.Proofs.YtiapfhlipoomaaaDoorW.PrintLast Go.Proofs.YtiapfhlipoomaaaDoorW.PrintMore Go.Proofs.YtiapfhlipoomaaaDoor.Print
set_option linter.unusedVariables false
set_option linter.unusedSimpArgs false
theorem row_str {w : World} {base : Nat} {ok : Nat → Prop} {v : Value} {xs : List ByteArray} {s : ByteArray} {i : Nat} (h : Kd.R Kd.string 9 w base ok v xs) (hs : xs[i]? = some s) : ∃ ad c, v = .slice (some ad) xs.length c ∧ w.cell? (ad.add i) = some (.string s) := by
  obtain ⟨A, c, rfl, hc, hC⟩ := Kd.R_reads h
  have hi := (List.getElem?_eq_some_iff.1 hs).1
  obtain ⟨ad, rfl, hcell⟩ := Kd.at_string hC (i : Int) (by omega) (by omega)
  refine ⟨ad, c, rfl, ?_⟩
  rw [Int.toNat_natCast] at hcell
  rw [hcell]
  simp [rdOf, hs]
end Go.Proofs.YtiapfhlipoomaaaDoor.Given
end
section
namespace Go.Proofs.YtiapfhlipoomaaaDoor.Given
open Go.RowKit Go.Proofs.YtiapfhlipoomaaaDoorW.PrintWords Go.Proofs.YtiapfhlipoomaaaDoorW.PrintLast Go.Proofs.YtiapfhlipoomaaaDoorW.PrintMore Go.Proofs.YtiapfhlipoomaaaDoor.Print
set_option linter.unusedVariables false
set_option linter.unusedSimpArgs false
def placeB (l : List ByteArray) (t : ByteArray) : Int := idxB l t 0 + 1
theorem idx_shift : ∀ (l : List ByteArray) (t : ByteArray) (k m : Nat), idxB l t (k + m) = if idxB l t k = -1 then -1 else idxB l t k + m
  | [], _, _, _ => by simp [idxB]
  | a :: l, t, k, m => by
    unfold idxB
    by_cases e : t.toList = a.toList
    · rw [if_pos e, if_pos e, if_neg (by omega)]
      omega
    · rw [if_neg e, if_neg e, show k + m + 1 = k + 1 + m by omega]
      exact idx_shift l t (k + 1) m
theorem idx_range : ∀ (l : List ByteArray) (t : ByteArray) (k : Nat), idxB l t k = -1 ∨ ((k : Int) ≤ idxB l t k ∧ idxB l t k < k + l.length)
  | [], _, _ => Or.inl rfl
  | a :: l, t, k => by
    unfold idxB
    by_cases e : t.toList = a.toList
    · rw [if_pos e]
      exact Or.inr ⟨by omega, by simp only [List.length_cons]; omega⟩
    · rw [if_neg e]
      rcases idx_range l t (k + 1) with h | h
      · exact Or.inl h
      · exact Or.inr ⟨by omega, by simp only [List.length_cons]; omega⟩
theorem place_go (l : List ByteArray) (t : ByteArray) (hl : l.length ≤ 1000) : ∀ (n i : Nat), l.length - i = n → i ≤ l.length → squintref18_place.l0 (n + 1) l t (i : Int) = some (idxB (l.drop i) t i + 1)
  | 0, i, hn, hi => by
    obtain rfl : i = l.length := by omega
    unfold squintref18_place.l0
    rw [if_neg (by omega), List.drop_length]
    rfl
  | n + 1, i, hn, hi => by
    have hlt : i < l.length := by omega
    have hr : rdOf ByteArray.empty l (i : Int) = l[i] := by simp [rdOf, hlt]
    unfold squintref18_place.l0
    rw [if_pos (by omega), if_pos (by omega), hr, List.drop_eq_getElem_cons hlt, idxB, show wrap64 ((i : Int) + 1) = ((i + 1 : Nat) : Int) by simp only [wrap64]; omega]
    by_cases e : t.toList = l[i].toList
    · rw [if_pos e.symm, if_pos e]
      congr 1
    · rw [if_neg (fun h => e h.symm), if_neg e]
      exact place_go l t hl n (i + 1) (by omega) (by omega)
theorem place_says (l : List ByteArray) (t : ByteArray) (hl : l.length ≤ 1000) : squintref18_place.f (l.length + 1) l t = some (placeB l t) := by
  unfold squintref18_place.f
  have := place_go l t hl l.length 0 rfl (Nat.zero_le _)
  exact this
def trapsL : List ByteArray := [⟨#[100, 105, 118, 105, 100, 101]⟩, ⟨#[105, 110, 100, 101, 120]⟩, ⟨#[102, 105, 108, 108]⟩, ⟨#[110, 105, 108]⟩, ⟨#[119, 114, 111, 110, 103]⟩]
def countersL : List ByteArray := [⟨#[112, 114, 111, 99, 115]⟩, ⟨#[108, 105, 118, 101]⟩, ⟨#[99, 104, 97, 110, 115]⟩, ⟨#[116, 105, 99, 107, 115]⟩, ⟨#[99, 101, 108, 108, 115]⟩, ⟨#[100, 101, 112, 116, 104]⟩]
def valC (c : Int) (t : ByteArray) : Int × Bool :=
  if c = 84 then (placeB trapsL t, decide (0 < placeB trapsL t))
  else if c = 83 then (placeB countersL t, decide (0 < placeB countersL t))
  else numR t
def lettersR : List UInt8 → List ByteArray → S24 → Option (S24 × List ByteArray)
  | [], ws, x => some (x, ws)
  | c :: cs, ws, x =>
    if c.toNat = 76 then match numsIn ws with
      | some l => lettersR cs [] ⟨x.f0, x.f1, x.f2, x.f3, x.f4, x.f5, x.f6, x.f7 ++ l⟩
      | none => none
    else match ws with
      | [] => none
      | t :: r => if (valC c.toNat t).2 = true then lettersR cs r (setK x (valC c.toNat t).1 (letO c.toNat)) else none
abbrev zeroE : S24 := ⟨0, 0, 0, 0, 0, 0, 0, []⟩
def evK (k : Nat) (ws : List ByteArray) : S24 × Bool := match lettersR (shapeB k).data.toList ws ⟨k, 0, 0, 0, 0, 0, 0, []⟩ with
  | none => (zeroE, false)
  | some (x, r) => (x, decide (r = []) && okX x)
def evR (s : ByteArray) : S24 × Bool := match kindOf ((wordsL s).headD ⟨#[]⟩) with
  | none => (zeroE, false)
  | some k => evK k (wordsL s).tail
theorem letters_nums : ∀ (cs : List UInt8) (ds : List UInt8) (ws : List ByteArray) (x : S24), (∀ c ∈ cs, c.toNat ≠ 76 ∧ c.toNat ≠ 84 ∧ c.toNat ≠ 83) →
    lettersR (cs ++ ds) ws x = (fillNums (cs.map fun c => letO c.toNat) ws x).bind fun p => lettersR ds p.2 p.1
  | [], ds, ws, x, _ => rfl
  | c :: cs, ds, [], x, h => by
    obtain ⟨h1, _, _⟩ := h c (by simp)
    rw [List.cons_append, lettersR, if_neg h1]
    rfl
  | c :: cs, ds, t :: ws, x, h => by
    obtain ⟨h1, h2, h3⟩ := h c (by simp)
    have ih := letters_nums cs ds ws
    rw [List.cons_append, lettersR, if_neg h1]
    simp only [List.map_cons, fillNums]
    have hv : valC c.toNat t = numR t := by
      unfold valC
      rw [if_neg (by omega), if_neg (by omega)]
    rw [hv, numR_iff t]
    by_cases hb : (numR t).2 = true
    · rw [if_pos hb, if_pos hb]
      simp only
      exact ih _ (fun d hd => h d (by simp [hd]))
    · rw [if_neg hb, if_neg hb]
      rfl
theorem all_f7 : ∀ (os : List Nat) (ns : List Int) (x : S24), (setAll x os ns).f7 = x.f7
  | [], ns, x => rfl
  | _ :: _, [], x => rfl
  | o :: os, n :: ns, x => by rw [setAll, all_f7 os ns, setK_f7]
theorem ok_empty {x : S24} (h : okX x = true) (hk : x.f0 ≠ 9) : x.f7 = [] := by
  unfold okX at h
  rw [Bool.and_eq_true] at h
  obtain ⟨h0, h1⟩ := h
  have h0 := of_decide_eq_true h0
  obtain ⟨k, hkk⟩ : ∃ k : Nat, x.f0 = k := ⟨x.f0.toNat, by omega⟩
  rw [hkk, Int.toNat_natCast] at h1
  rcases eleven (k := k) (by omega) (by omega) with rfl | rfl | rfl | rfl | rfl | rfl | rfl | rfl | rfl | rfl | rfl
  all_goals first | exact absurd hkk hk | (simp [okK] at h1; simp [h1])
theorem rest_eq (x : S24) (r : List ByteArray) (h7 : x.f7 = []) (hk : x.f0 ≠ 9) : fillRest (x, r) = if (decide (r = []) && okX x) = true then some x else none := by
  unfold fillRest
  simp only
  have ex : (⟨x.f0, x.f1, x.f2, x.f3, x.f4, x.f5, x.f6, []⟩ : S24) = x := by rw [← h7]
  cases r with
  | nil =>
    simp only [numsIn, Option.bind_some, decide_true, Bool.true_and]
    rw [ex]
  | cons t r =>
    rw [if_neg (by simp)]
    unfold numsIn
    cases numOf t with
    | none => rfl
    | some v =>
      cases numsIn r with
      | none => rfl
      | some l =>
        simp only [Option.bind_some]
        rw [if_neg]
        intro hok
        have := ok_empty hok hk
        cases this
theorem traps_no : placeB trapsL ⟨#[]⟩ = 0 ∧ placeB countersL ⟨#[]⟩ = 0 := by constructor <;> kernel_rfl
theorem toList_nil {t : ByteArray} (h : t.toList = []) : t = ⟨#[]⟩ := bytes_ext (by rw [← Lib.toList_data, h])
theorem idx_cons (l : List ByteArray) (t : ByteArray) (ht : t.toList ≠ []) : idxB (⟨#[]⟩ :: l) t 0 = if placeB l t = 0 then -1 else placeB l t := by
  rw [idxB, if_neg (by intro h; exact ht (h.trans (by rw [Lib.toList_data])))]
  have := idx_shift l t 0 1
  rw [this]
  unfold placeB
  rcases idx_range l t 0 with h | h
  · rw [h]; rfl
  · rw [if_neg (by omega), if_neg (by omega)]
    rfl
theorem word_eq (k : Nat) (l : List ByteArray) (c : UInt8) (hk : (k = 6 ∧ l = trapsL ∧ c = 84) ∨ (k = 11 ∧ l = countersL ∧ c = 83)) (x : S24) (r : List ByteArray) (h0 : x.f0 = k) (h7 : x.f7 = []) :
    ((fillWord k (x, r)).bind fillRest) = (lettersR [c] r x).bind fun p => if (decide (p.2 = []) && okX p.1) = true then some p.1 else none := by
  have hcl : clsK k = 2 := by rcases hk with ⟨rfl, _⟩ | ⟨rfl, _⟩ <;> rfl
  have hws : wsK k = ⟨#[]⟩ :: l := by rcases hk with ⟨rfl, rfl, _⟩ | ⟨rfl, rfl, _⟩ <;> rfl
  have h9 : x.f0 ≠ 9 := by rcases hk with ⟨rfl, _⟩ | ⟨rfl, _⟩ <;> omega
  have h76 : c.toNat ≠ 76 := by rcases hk with ⟨_, _, rfl⟩ | ⟨_, _, rfl⟩ <;> decide
  have hlo : letO c.toNat = 6 := by rcases hk with ⟨_, _, rfl⟩ | ⟨_, _, rfl⟩ <;> rfl
  have hval : ∀ t, valC c.toNat t = (placeB l t, decide (0 < placeB l t)) := by
    intro t
    unfold valC
    rcases hk with ⟨_, rfl, rfl⟩ | ⟨_, rfl, rfl⟩
    · rw [if_pos (by decide)]
    · rw [if_neg (by decide), if_pos (by decide)]
  have hno : placeB l ⟨#[]⟩ = 0 := by rcases hk with ⟨_, rfl, _⟩ | ⟨_, rfl, _⟩; exact traps_no.1; exact traps_no.2
  unfold fillWord
  rw [if_pos hcl]
  cases r with
  | nil =>
    rw [lettersR, if_neg h76]
    rfl
  | cons t r =>
    simp only
    rw [lettersR, if_neg h76]
    simp only [hval, hlo]
    by_cases ht : t.toList = []
    · rw [if_pos ht, toList_nil ht, hno]
      rfl
    · rw [if_neg ht, hws, idx_cons l t ht, Option.bind_some]
      rcases idx_range l t 0 with h | h
      · have hp : placeB l t = 0 := by unfold placeB; omega
        rw [hp, if_pos rfl, rest_eq _ _ (by rw [setK_f7]; exact h7) (by rw [setK_f0]; exact h9)]
        have hbad : okX (setK x (-1) 6) = false := by
          unfold okX
          rw [setK_f0, h0, Int.toNat_natCast]
          rcases hk with ⟨rfl, _⟩ | ⟨rfl, _⟩ <;> simp [okK, setK]
        rw [hbad]
        simp
      · have hp : 0 < placeB l t := by unfold placeB; omega
        rw [if_neg (by omega), rest_eq _ _ (by rw [setK_f7]; exact h7) (by rw [setK_f0]; exact h9), decide_eq_true hp]
        simp [lettersR]
theorem fill_ref (k : Nat) (h1 : 1 ≤ k) (h2 : k ≤ 11) (ws : List ByteArray) : fillOf k ws = if (evK k ws).2 = true then some (evK k ws).1 else none := by
  have key : fillOf k ws = (lettersR (shapeB k).data.toList ws ⟨k, 0, 0, 0, 0, 0, 0, []⟩).bind fun p => if (decide (p.2 = []) && okX p.1) = true then some p.1 else none := by
    have hcase : ∃ cs ds : List UInt8, (shapeB k).data.toList = cs ++ ds ∧ (∀ c ∈ cs, c.toNat ≠ 76 ∧ c.toNat ≠ 84 ∧ c.toNat ≠ 83) ∧ (cs.map fun c => letO c.toNat) = atK k ∧
        ((ds = [] ∧ clsK k ≠ 2 ∧ k ≠ 9) ∨ (ds = [84] ∧ k = 6) ∨ (ds = [83] ∧ k = 11) ∨ (ds = [76] ∧ k = 9)) := by
      rcases eleven h1 h2 with rfl | rfl | rfl | rfl | rfl | rfl | rfl | rfl | rfl | rfl | rfl
      · exact ⟨[80, 81], [], rfl, by decide, rfl, by decide⟩
      · exact ⟨[80, 73, 81, 74, 67], [], rfl, by decide, rfl, by decide⟩
      · exact ⟨[81, 74, 78], [], rfl, by decide, rfl, by decide⟩
      · exact ⟨[80, 73, 78], [], rfl, by decide, rfl, by decide⟩
      · exact ⟨[80], [], rfl, by decide, rfl, by decide⟩
      · exact ⟨[80], [84], rfl, by decide, rfl, by decide⟩
      · exact ⟨[], [], rfl, by decide, rfl, by decide⟩
      · exact ⟨[], [], rfl, by decide, rfl, by decide⟩
      · exact ⟨[], [76], rfl, by decide, rfl, by decide⟩
      · exact ⟨[80], [], rfl, by decide, rfl, by decide⟩
      · exact ⟨[80], [83], rfl, by decide, rfl, by decide⟩
    obtain ⟨cs, ds, e1, e2, e3, e4⟩ := hcase
    rw [e1, letters_nums cs ds ws _ e2, e3]
    unfold fillOf
    cases hf : fillNums (atK k) ws ⟨k, 0, 0, 0, 0, 0, 0, []⟩ with
    | none => rfl
    | some p =>
      obtain ⟨x1, r1⟩ := p
      obtain ⟨ns, _, _, _, hx⟩ := fill_back _ _ _ _ _ hf
      have h0 : x1.f0 = k := by rw [hx, all_f0]
      have h7 : x1.f7 = [] := by rw [hx, all_f7]
      simp only [Option.bind_some]
      rcases e4 with ⟨rfl, hc, h9⟩ | ⟨rfl, rfl⟩ | ⟨rfl, rfl⟩ | ⟨rfl, rfl⟩
      · unfold fillWord
        rw [if_neg hc, Option.bind_some, rest_eq _ _ h7 (by omega)]
        rfl
      · exact word_eq 6 trapsL 84 (Or.inl ⟨rfl, rfl, rfl⟩) x1 r1 h0 h7
      · exact word_eq 11 countersL 83 (Or.inr ⟨rfl, rfl, rfl⟩) x1 r1 h0 h7
      · have hw : fillWord 9 (x1, r1) = some (x1, r1) := by unfold fillWord; rw [if_neg (by decide)]
        rw [hw, Option.bind_some]
        unfold fillRest
        have hL : lettersR [76] r1 x1 = match numsIn r1 with
            | some l => some (⟨x1.f0, x1.f1, x1.f2, x1.f3, x1.f4, x1.f5, x1.f6, x1.f7 ++ l⟩, [])
            | none => none := by
          unfold lettersR
          rw [if_pos (by decide)]
          cases numsIn r1 <;> rfl
        simp only
        rw [hL]
        cases numsIn r1 with
        | none => rfl
        | some l =>
          simp only [Option.bind_some, h7, List.nil_append, decide_true, Bool.true_and]
  rw [key]
  unfold evK
  cases hl : lettersR (shapeB k).data.toList ws ⟨k, 0, 0, 0, 0, 0, 0, []⟩ with
  | none => rfl
  | some p => rfl
theorem one_ref (s : ByteArray) : oneOf s = if (evR s).2 = true then some (evR s).1 else none := by
  unfold oneOf evR
  cases hk : kindOf ((wordsL s).headD ⟨#[]⟩) with
  | none => rfl
  | some k =>
    obtain ⟨k1, k2, _⟩ := kind_back _ k hk
    rw [Option.bind_some]
    exact fill_ref k k1 k2 _
end Go.Proofs.YtiapfhlipoomaaaDoor.Given
end
section
namespace Go.Proofs.YtiapfhlipoomaaaDoor.Given
open Go.RowKit Go.Proofs.YtiapfhlipoomaaaDoorW.PrintWords Go.Proofs.YtiapfhlipoomaaaDoorW.PrintLast Go.Proofs.YtiapfhlipoomaaaDoorW.PrintMore Go.Proofs.YtiapfhlipoomaaaDoor.Print
set_option linter.unusedVariables false
set_option linter.unusedSimpArgs false
theorem body_id {P : Program} {fn : Func} {R : Ending → World → Prop} {a : Act} {w : World} (h : bodyPost P fn R .ret a w) : bodyPost P fn R .ret a w := h
def accK (t : ByteArray) : Nat → Nat
  | 0 => 0
  | k + 1 => if (wordB k).toList = t.toList ∧ 1 ≤ k then k else accK t k
theorem acc_one (t : ByteArray) : accK t 1 = 0 := by
  rw [accK, if_neg (by omega)]
  rfl
theorem words_apart : ∀ i j : Fin 12, 1 ≤ i.val → 1 ≤ j.val → (wordB i.val).toList = (wordB j.val).toList → i = j := by decide +kernel
theorem acc_none (t : ByteArray) : ∀ (m : Nat), (∀ k, 1 ≤ k → k < m → (wordB k).toList ≠ t.toList) → accK t m = 0
  | 0, _ => rfl
  | m + 1, h => by
    rw [accK, if_neg (fun e => h m e.2 (by omega) e.1), acc_none t m (fun k h1 h2 => h k h1 (by omega))]
theorem acc_some (t : ByteArray) (k : Nat) (h1 : 1 ≤ k) (h2 : k ≤ 11) (h : (wordB k).toList = t.toList) : ∀ (m : Nat), k < m → m ≤ 12 → accK t m = k
  | 0, hm, _ => by omega
  | m + 1, hm, hm2 => by
    rw [accK]
    by_cases he : (wordB m).toList = t.toList ∧ 1 ≤ m
    · rw [if_pos he]
      have := words_apart ⟨m, by omega⟩ ⟨k, by omega⟩ he.2 h1 (he.1.trans h.symm)
      exact congrArg Fin.val this
    · rw [if_neg he]
      have : k ≠ m := fun e => he ⟨by rw [← e]; exact h, by omega⟩
      exact acc_some t k h1 h2 h m (by omega) (by omega)
theorem kind_from_no (t : ByteArray) : ∀ (m k0 : Nat), kindFrom t m k0 = none → ∀ k, k0 ≤ k → k < k0 + m → (wordB k).toList ≠ t.toList
  | 0, k0, _, k, h1, h2 => by omega
  | m + 1, k0, h, k, h1, h2 => by
    unfold kindFrom at h
    split at h
    · cases h
    · rename_i hne
      by_cases e : k = k0
      · subst e
        exact hne
      · exact kind_from_no t m (k0 + 1) h k (by omega) (by omega)
theorem acc_kind (t : ByteArray) : accK t 12 = (kindOf t).getD 0 := by
  cases h : kindOf t with
  | none => exact acc_none t 12 (fun k h1 h2 => kind_from_no t 11 1 h k h1 (by omega))
  | some k =>
    obtain ⟨h1, h2, h3⟩ := kind_from_back t 11 1 k h
    exact acc_some t k h1 (by omega) h3 12 (by omega) (by omega)
theorem store_row_step {ops : Array Oper} {o : Oper} {a : Act} {w : World} {K : Act → World → Prop} {Q : Exit → Act → World → Prop} (hw : Region.wanted o (yielded ops a.tmps) = true) (h : Oper.wp Tryd.prog o a w K Q) : if Region.wanted o (yielded ops a.tmps) = true then Oper.wp Tryd.prog o a w K Q else K (a.put o.dst undef) w := by
  rw [if_pos hw]
  exact h
theorem letters_L {c : UInt8} {cs : List UInt8} {ws : List ByteArray} {x : S24} (h : c.toNat = 76) : lettersR (c :: cs) ws x = match numsIn ws with
      | some l => lettersR cs [] ⟨x.f0, x.f1, x.f2, x.f3, x.f4, x.f5, x.f6, x.f7 ++ l⟩
      | none => none := by
  cases hn : numsIn ws <;> simp [lettersR, h, hn]
theorem letters_nil {c : UInt8} {cs : List UInt8} {x : S24} (h : c.toNat ≠ 76) : lettersR (c :: cs) [] x = none := by
  simp [lettersR, h]
theorem letters_cons {c : UInt8} {cs : List UInt8} {t : ByteArray} {r : List ByteArray} {x : S24} (h : c.toNat ≠ 76) : lettersR (c :: cs) (t :: r) x = if (valC c.toNat t).2 = true then lettersR cs r (setK x (valC c.toNat t).1 (letO c.toNat)) else none := by
  simp [lettersR, h]
def ev37T : Bool × List (List Nat × List Nat) := (true, [([], []), ([], []), ([], []), ([2], [2]), ([1, 3], [1, 3]), ([4], [4]), ([5], [5]), ([6, 5, 5], [5, 6]), ([7, 5], [5, 7]), ([5, 8], [5, 8]), ([0, 7, 0], [0]), ([9, 10, 0, 1, 2, 3, 4, 5, 6, 7, 8, 9, 10], [9])])
def ev37B : List Nat := [0, 0, 0, 4, 14, 30, 62, 126, 254, 510, 255, 2047]
theorem ev37tab : rtab .any (opsOf Tryd.f38 37) = ev37T := by kernel_rfl
theorem ev37bits : waitsOk ev37T.2 ev37B = true := by kernel_rfl
theorem add_zero_at0 (b m : Nat) : (⟨b, 0, none⟩ : Addr).add m = ⟨b, m, none⟩ := by
  simp [Addr.add]
  exact Eq.symm
theorem below_setG {base g : Nat} {w w1 : World} (h : Below base w w1) (hg : base ≤ g) (j : Nat) (u : Value) : Below base w (w1.setCell ⟨g, j, none⟩ u) :=
  ⟨h.os, h.tape, h.output, by simpa [World.setCell] using h.size, fun k hk => (Below.heap_setCell w1 ⟨g, j, none⟩ u k (by show k ≠ g; omega)).trans (h.block k hk)⟩
theorem word_at {w : World} {base g n c : Nat} {ok : Nat → Prop} {xs : List ByteArray} (h : Kd.R Kd.string 9 w base ok (.slice (some ⟨g, 0, none⟩) n c) xs) (i : Nat) (t : ByteArray) (ht : xs[i]? = some t) : w.cell? ⟨g, i, none⟩ = some (.string t) := by
  obtain ⟨ad, c', e, hc⟩ := row_str h ht
  injection e with e1
  injection e1 with e1
  subst e1
  rw [add_zero_at0] at hc
  exact hc
set_option maxRecDepth 100000 in
set_option maxHeartbeats 16000000 in
theorem event_any (s : ByteArray) (w : World) (hs : s.size < 4294967296) :
    Calls Tryd.prog 38 #[.string s] w fun e w' => ∃ v, e = .returned (.tuple #[.agg (evC (evR s).1 v), .bool (evR s).2]) ∧ Kd.R (Kd.int .i64) 3 w' w.heap.size (fun _ => True) v (evR s).1.f7 ∧ Below w.heap.size w w' := by
  have hu24 := Tryd.underlying24
  have hu46 := Tryd.underlying46
  have HS := Aside0.mk hs
  have HB := Aside0.mk (Below.refl w.heap.size w)
  obtain ⟨ws, hws⟩ : ∃ ws, wordsL s = ws := ⟨_, rfl⟩
  have hlw := words_length s _ rfl
  have hcl := count_le s
  rw [hws] at hlw
  have HWS := Aside0.mk hws
  have HNE := Aside0.mk (show 0 < ws.length by omega)
  have hwn : ws.length ≤ 4294967296 := by omega
  obtain ⟨hd, tl, hht⟩ : ∃ hd tl, ws = hd :: tl := by
    cases ws with
    | nil => simp at hlw
    | cons a b => exact ⟨a, b, rfl⟩
  have HHD : Aside0 (ws[0]? = some hd) := ⟨by rw [hht]; rfl⟩
  have HTL : Aside0 (ws.drop 1 = tl) := ⟨by rw [hht]; rfl⟩
  have HEV : Aside0 (evR s = match kindOf hd with
      | none => (zeroE, false)
      | some k => evK k tl) := ⟨by unfold evR; rw [hws, hht]; rfl⟩
  generalize evR s = res at HEV ⊢
  clear hs hws hlw hcl hht
  go_enter Tryd.func38, Tryd.ntmps38
  go_wp2_with (first
    | ((with_reducible refine gate_dst (N := 2) rfl ?_); refine box_event ?hg (N := 2) ?hd (cs := #[.int .i64 0, .int .i64 0, .int .i64 0, .int .i64 0, .int .i64 0, .int .i64 0, .int .i64 0, .slice none 0 0]) (t := 24) ?hr ?_; (case hd => rfl); (case hg => rfl); (case hr => first | (go_simp; done) | (go_simp; rfl)); intro g2 hg w2 hbox hb; have n0_ := Aside0.mk (below_step HB.out hb); have GE2 := Aside0.mk (show w.heap.size ≤ g2 by rw [hg]; exact HB.out.size); clear HB; have HB := n0_; clear n0_; have BR : Aside0 (w2.heap[g2]? = some (.cells (evC zeroE (.slice none 0 0)) 24 (0, 0))) := ⟨hbox⟩; clear hbox hb hg)
    | (go_at_call 50; refine (split_ref s _ HS.out).mono ?_; rintro e w3 ⟨v4, rfl, hR, hb⟩; rw [HWS.out] at hR; obtain ⟨gw, cw, rfl, _⟩ := Kd.R_form hR HNE.out; have HW := Aside0.mk (Kd.R_lower hR HB.out.size); have n0_ := Aside0.mk (below_step HB.out hb); have n1_ := Aside0.mk (blk_below BR.out hb); clear HB BR hR hb; have HB := n0_; have BR := n1_; clear n0_ n1_)
    | ((with_reducible refine gate_dst (N := 5) rfl ?_); refine box_event ?hg (N := 5) ?hd (cs := #[.int .i64 0, .int .i64 0, .int .i64 0, .int .i64 0, .int .i64 0, .int .i64 0, .int .i64 0, .slice none 0 0]) (t := 24) ?hr ?_; (case hd => rfl); (case hg => rfl); (case hr => first | (go_simp; done) | (go_simp; rfl)); intro g5 hg w5 hbox hb; have NB := Aside0.mk (show g2 ≠ g5 by have := blk_lt BR.out; omega); have GE5 := Aside0.mk (show w.heap.size ≤ g5 by rw [hg]; exact HB.out.size); have n0_ := Aside0.mk (below_step HB.out hb); have n1_ := Aside0.mk (blk_below BR.out hb); have n2_ := Aside0.mk (Kd.R_below HW.out hb); clear HB BR HW; have HB := n0_; have BR := n1_; have HW := n2_; have BX : Aside0 (w5.heap[g5]? = some (.cells (evC zeroE (.slice none 0 0)) 24 (0, 0))) := ⟨hbox⟩; clear n0_ n1_ n2_ hbox hb hg)
    | (refine wpList_store_row rfl 24 (.tmp 5) (.tmp 17) rfl g5 (evC zeroE (.slice none 0 0)) rfl rfl 24 _ BX.out (by kernel_rfl) rfl (by kernel_rfl) ?_; have n0_ : Aside0 ((w5.setRow g5 (evC zeroE (.slice none 0 0))).heap[g5]? = some (.cells (evC zeroE (.slice none 0 0)) 24 (0, 0))) := ⟨setRow_heap _ _ _ _ _ _ BX.out⟩; have n1_ := Aside0.mk (below_setRow HB.out GE5.out (evC zeroE (.slice none 0 0))); have n2_ : Aside0 ((w5.setRow g5 (evC zeroE (.slice none 0 0))).heap[g2]? = _) := ⟨(setRow_other _ _ _ _ NB.out).trans BR.out⟩; have n3_ := Aside0.mk (Kd.R_mono (R_setRow HW.out BX.out (by decide) (cs' := (evC zeroE (.slice none 0 0)))) (fun _ _ => trivial)); generalize w5.setRow g5 (evC zeroE (.slice none 0 0)) = w6 at n0_ n1_ n2_ n3_ ⊢; clear BX HB BR HW; have BX := n0_; have HB := n1_; have BR := n2_; have HW := n3_; clear n0_ n1_ n2_ n3_))
  go_loopw [6] (fun v6 wr => ∃ k : Nat, v6 = .int .i64 k ∧ 1 ≤ k ∧ k ≤ 12 ∧ Aside0 (wr.heap[g5]? = some (.cells (evC ⟨(accK hd k : Nat), 0, 0, 0, 0, 0, 0, []⟩ (.slice none 0 0)) 24 (0, 0))) ∧ Aside0 (wr.heap[g2]? = some (.cells (evC zeroE (.slice none 0 0)) 24 (0, 0))) ∧ Aside0 (Kd.R Kd.string 9 wr w.heap.size (fun _ => True) (.slice (some ⟨gw, 0, none⟩) ws.length cw) ws) ∧ Aside0 (Below w.heap.size w wr)) (fun v6 _ => 12 - (intOf v6).toNat)
  case atStart => exact ⟨1, rfl, by omega, by omega, ⟨by rw [acc_one]; exact BX.out⟩, BR, HW, HB⟩
  case round =>
    clear BX BR HW HB
    obtain ⟨k, rfl, hk1, hk2, BX, BR, HW, HB⟩ := hrel
    obtain ⟨wo, rfl⟩ : ∃ wo : World, wo = wr := ⟨_, rfl⟩
    by_cases hk : k ≤ 11
    · have y0 : wo.cell? ⟨gw, 0, none⟩ = some (.string hd) := word_at HW.out 0 hd HHD.out
      have HWK := Aside0.mk (word_says k hk1 hk)
      have hwl : 0 < ws.length := HNE.out
      have HK1 := Aside0.mk hk1
      obtain ⟨wk, hwk⟩ : ∃ wk, wk = wordB k := ⟨_, rfl⟩
      rw [← hwk] at HWK
      by_cases he : (wordB k).toList = hd.toList
      · have heb : (wk.toList == hd.toList) = true := by rw [hwk]; simpa using he
        have HAC : Aside0 (accK hd (k + 1) = k) := ⟨by rw [accK, if_pos ⟨he, hk1⟩]⟩
        clear he hwk
        go_wp2_with (fail)
        go_region_with (go_at_call 26; refine (squintref18_word.calls (k : Int) _ _ HWK.out).mono ?_; rintro e w7 ⟨rfl, hb0⟩; have hb := below_then (below_drew (Below.refl _ wo)) (Nat.le_refl _) hb0; clear hb0; have n0_ := Aside0.mk (below_step HB.out hb); have n1_ := Aside0.mk (blk_below BR.out hb); have n2_ := Aside0.mk (blk_below BX.out hb); have n3_ := Aside0.mk (Kd.R_below HW.out hb); clear HB BR BX HW hb; have HB := n0_; have BR := n1_; have BX := n2_; have HW := n3_; clear n0_ n1_ n2_ n3_; clear y0; have y0 : w7.cell? ⟨gw, 0, none⟩ = some (.string hd) := word_at HW.out 0 hd HHD.out)
        all_goals
          have z0 : w7.cell? ⟨g5, 0, none⟩ = some (.int .i64 (accK hd k : Nat)) := (blk_cell BX.out 0).trans rfl
          have f0 : w7.frozen? ⟨g5, 0, none⟩ = false := blk_frozen BX.out 0
          go_wp2_with (fail)
          go_roundw
          case rel => exact ⟨k + 1, by go_num, by omega, by omega, ⟨(blk_set BX.out _ _).trans (by rw [HAC.out]; rfl)⟩, ⟨blk_far BR.out NB.out _⟩, ⟨Kd.R_set HW.out BX.out (by decide) _ _⟩, ⟨below_setG HB.out GE5.out _ _⟩⟩
          case measure => simp [intOf]; omega
      · have heb : (wk.toList == hd.toList) = false := by rw [hwk]; simpa using he
        have HAC : Aside0 (accK hd (k + 1) = accK hd k) := ⟨by rw [accK, if_neg (fun h => he h.1)]⟩
        clear he hwk
        go_wp2_with (fail)
        go_region_with (go_at_call 26; refine (squintref18_word.calls (k : Int) _ _ HWK.out).mono ?_; rintro e w7 ⟨rfl, hb0⟩; have hb := below_then (below_drew (Below.refl _ wo)) (Nat.le_refl _) hb0; clear hb0; have n0_ := Aside0.mk (below_step HB.out hb); have n1_ := Aside0.mk (blk_below BR.out hb); have n2_ := Aside0.mk (blk_below BX.out hb); have n3_ := Aside0.mk (Kd.R_below HW.out hb); clear HB BR BX HW hb; have HB := n0_; have BR := n1_; have BX := n2_; have HW := n3_; clear n0_ n1_ n2_ n3_; clear y0; have y0 : w7.cell? ⟨gw, 0, none⟩ = some (.string hd) := word_at HW.out 0 hd HHD.out)
        all_goals
          go_wp2_with (fail)
          go_roundw
          case rel => exact ⟨k + 1, by go_num, by omega, by omega, ⟨by rw [HAC.out]; exact BX.out⟩, BR, HW, HB⟩
          case measure => simp [intOf]; omega
    · obtain rfl : k = 12 := by omega
      have hak := acc_kind hd
      rcases hkd : kindOf hd with _ | kd
      · have HRES : Aside0 (res = (zeroE, false)) := ⟨by rw [HEV.out, hkd]⟩
        have z0 : wo.cell? ⟨g5, 0, none⟩ = some (.int .i64 0) := (blk_cell BX.out 0).trans (by rw [hak, hkd]; rfl)
        clear hak hkd
        go_wp2_with (first | ((with_reducible refine body_id ?_); refine bodyPost_ret (results_ct rfl _ _ g2 24 (evC zeroE (.slice none 0 0)) (0, 0) _ rfl n0_.out Tryd.underlying24 rfl (by kernel_rfl)) rfl ?_; rw [HRES.out]; exact ⟨.slice none 0 0, rfl, Kd.R_nil _ _ _ _ _, n1_.out⟩) | (refine wpList_store_row rfl 24 (.tmp 2) (.tmp 33) rfl g2 (evC zeroE (.slice none 0 0)) rfl rfl 24 _ BR.out (by kernel_rfl) rfl (by kernel_rfl) ?_; have n0_ : Aside0 ((wo.setRow g2 (evC zeroE (.slice none 0 0))).heap[g2]? = some (.cells (evC zeroE (.slice none 0 0)) 24 (0, 0))) := ⟨setRow_heap _ _ _ _ _ _ BR.out⟩; have n1_ := Aside0.mk (below_setRow HB.out GE2.out (evC zeroE (.slice none 0 0))); generalize wo.setRow g2 (evC zeroE (.slice none 0 0)) = wz at n0_ n1_ ⊢))
      · obtain ⟨k1, k2, _⟩ := kind_back hd kd hkd
        have HRS : Aside0 (res = (match lettersR (shapeB kd).data.toList (ws.drop 1) ⟨kd, 0, 0, 0, 0, 0, 0, []⟩ with
                  | none => (zeroE, false)
                  | some (y, r) => (y, decide (r = []) && okX y))) := ⟨by rw [HEV.out, hkd]; simp only [evK]; rw [HTL.out]; first | done | rfl⟩
        have HSH := Aside0.mk (shape_says kd k1 k2)
        have n0_ : Aside0 (wo.heap[g5]? = some (.cells (evC ⟨kd, 0, 0, 0, 0, 0, 0, []⟩ (.slice none 0 0)) 24 (0, 0))) := ⟨by rw [BX.out, hak, hkd]; rfl⟩
        clear BX
        have BX := n0_
        clear n0_ hak hkd
        have z0 : wo.cell? ⟨g5, 0, none⟩ = some (.int .i64 kd) := (blk_cell BX.out 0).trans rfl
        have hzk : ((kd : Int) == 0) = false := by simp; omega
        have hshz := shape_size kd
        obtain ⟨sh, hsh⟩ : ∃ sh, sh = shapeB kd := ⟨_, rfl⟩
        rw [← hsh] at HRS HSH hshz
        clear hsh
        go_wp2_with (go_at_call 27; refine (squintref18_shape.calls (kd : Int) _ _ HSH.out).mono ?_; rintro e w8 ⟨rfl, hb⟩; have n0_ := Aside0.mk (below_step HB.out hb); have n1_ := Aside0.mk (blk_below BR.out hb); have n2_ := Aside0.mk (blk_below BX.out hb); have n3_ := Aside0.mk (Kd.R_below HW.out hb); clear HB BR BX HW hb; have HB := n0_; have BR := n1_; have BX := n2_; have HW := n3_; clear n0_ n1_ n2_ n3_; clear z0)
        go_loopw [8, 9] (fun v8 v9 wr => ∃ (j a : Nat) (x : S24) (v7 : Value), v9 = .int .i64 j ∧ v8 = .int .i64 a ∧ j ≤ sh.size ∧ 1 ≤ a ∧ a ≤ ws.length ∧ Aside0 (x.f7.length ≤ a) ∧ Aside0 (res = (match lettersR (sh.data.toList.drop j) (ws.drop a) x with
                    | none => (zeroE, false)
                    | some (y, r) => (y, decide (r = []) && okX y))) ∧ Aside0 (wr.heap[g5]? = some (.cells (evC x v7) 24 (0, 0))) ∧ Aside0 (Kd.R (Kd.int .i64) 3 wr w.heap.size (fun _ => True) v7 x.f7) ∧ Aside0 (wr.heap[g2]? = some (.cells (evC zeroE (.slice none 0 0)) 24 (0, 0))) ∧ Aside0 (Kd.R Kd.string 9 wr w.heap.size (fun _ => True) (.slice (some ⟨gw, 0, none⟩) ws.length cw) ws) ∧ Aside0 (Below w.heap.size w wr)) (fun _ v9 _ => sh.size - (intOf v9).toNat)
        case atStart => exact ⟨0, 1, ⟨kd, 0, 0, 0, 0, 0, 0, []⟩, .slice none 0 0, rfl, rfl, by omega, by omega, HNE.out, ⟨by simp⟩, ⟨by rw [List.drop_zero]; exact HRS.out⟩, BX, ⟨Kd.R_nil _ _ _ _ _⟩, BR, HW, HB⟩
        case round =>
          clear BX BR HW HB HRS
          obtain ⟨j, a, x, v7, rfl, rfl, hjn, ha1, ha2, HXN, HRS, BX, HV, BR, HW, HB⟩ := hrel
          obtain ⟨wo, rfl⟩ : ∃ wo : World, wo = wr := ⟨_, rfl⟩
          obtain ⟨A7, c7, rfl⟩ := Kd.R_slice HV.out
          by_cases hjs : j < sh.size
          · have hdj := drop_bt sh j hjs
            rw [hdj] at HRS
            clear hdj
            by_cases e76 : sh[j].toNat = 76
            · have HL : Aside0 (res = (match (match numsIn (ws.drop a) with
                            | some l => lettersR (sh.data.toList.drop (j + 1)) [] ⟨x.f0, x.f1, x.f2, x.f3, x.f4, x.f5, x.f6, x.f7 ++ l⟩
                            | none => none) with
                          | none => (zeroE, false)
                          | some (y, r) => (y, decide (r = []) && okX y))) := ⟨by rw [HRS.out, letters_L e76]⟩
              have e : ((sh[j].toNat : Int) == 76) = true := by simp; omega
              have y7 : wo.cell? ⟨g5, 7, none⟩ = some (.slice A7 x.f7.length c7) := (blk_cell BX.out 7).trans rfl
              clear HRS e76
              go_wp2_with (fail)
              go_loopw [8] (fun v8 wr => ∃ (b : Nat) (l0 : List Int) (u7 : Value), v8 = .int .i64 b ∧ a ≤ b ∧ b ≤ ws.length ∧ l0.length + a = b ∧ Aside0 (numsIn (ws.drop a) = (numsIn (ws.drop b)).map (fun l => l0 ++ l)) ∧ Aside0 (wr.heap[g5]? = some (.cells (evC ⟨x.f0, x.f1, x.f2, x.f3, x.f4, x.f5, x.f6, x.f7 ++ l0⟩ u7) 24 (0, 0))) ∧ Aside0 (Kd.R (Kd.int .i64) 3 wr w.heap.size (fun _ => True) u7 (x.f7 ++ l0)) ∧ Aside0 (wr.heap[g2]? = some (.cells (evC zeroE (.slice none 0 0)) 24 (0, 0))) ∧ Aside0 (Kd.R Kd.string 9 wr w.heap.size (fun _ => True) (.slice (some ⟨gw, 0, none⟩) ws.length cw) ws) ∧ Aside0 (Below w.heap.size w wr)) (fun v8 _ => ws.length - (intOf v8).toNat)
              case atStart => exact ⟨a, [], .slice A7 x.f7.length c7, rfl, by omega, by omega, by simp, ⟨by cases numsIn (ws.drop a) <;> simp⟩, ⟨by rw [List.append_nil]; exact BX.out⟩, ⟨by rw [List.append_nil]; exact HV.out⟩, BR, HW, HB⟩
              case round =>
                clear BX BR HW HB HV y7
                obtain ⟨b, l0, u7, rfl, hb1, hb2, hl0, HNI, BX, HV, BR, HW, HB⟩ := hrel
                obtain ⟨wi, rfl⟩ : ∃ wi : World, wi = wr := ⟨_, rfl⟩
                obtain ⟨xl, hxl⟩ : ∃ xl, xl = x.f7 ++ l0 := ⟨_, rfl⟩
                have HXL := Aside0.mk hxl
                have hxn : xl.length ≤ 8589934592 := by have := HXN.out; rw [hxl, List.length_append]; omega
                rw [← hxl] at BX HV
                clear hxl
                obtain ⟨U7, d7, rfl⟩ := Kd.R_slice HV.out
                by_cases hbl : b < ws.length
                · have hdb := List.drop_eq_getElem_cons hbl
                  obtain ⟨t, ht⟩ : ∃ t, t = ws[b] := ⟨_, rfl⟩
                  have yt : wi.cell? ⟨gw, b, none⟩ = some (.string t) := word_at HW.out b t (by rw [ht]; exact List.getElem?_eq_getElem hbl)
                  rw [← ht] at hdb
                  obtain ⟨n, ok, hno⟩ : ∃ n ok, numR t = (n, ok) := ⟨_, _, rfl⟩
                  have HNO := Aside0.mk hno
                  have hnum := numR_iff t
                  rw [hno] at hnum
                  cases ok with
                  | false =>
                    have HRES : Aside0 (res = (zeroE, false)) := ⟨by
                      have hn2 : numsIn (ws.drop b) = none := by rw [hdb, numsIn, hnum]; rfl
                      rw [HL.out, HNI.out, hn2]
                      rfl⟩
                    clear hdb ht hno hnum
                    go_wp2_with (first
                      | (go_at_call 51; refine (number_any t _).mono ?_; rw [HNO.out]; rintro e w8 ⟨rfl, hb⟩; have n0_ := Aside0.mk (below_step HB.out hb); have n1_ := Aside0.mk (blk_below BR.out hb); have n2_ := Aside0.mk (blk_below BX.out hb); have n3_ := Aside0.mk (Kd.R_below HW.out hb); have n4_ := Aside0.mk (Kd.R_below HV.out hb); clear HB BR BX HW HV hb; have HB := n0_; have BR := n1_; have BX := n2_; have HW := n3_; have HV := n4_; clear n0_ n1_ n2_ n3_ n4_)
                      | (first | ((with_reducible refine body_id ?_); refine bodyPost_ret (results_ct rfl _ _ g2 24 (evC zeroE (.slice none 0 0)) (0, 0) _ rfl n0_.out Tryd.underlying24 rfl (by kernel_rfl)) rfl ?_; rw [HRES.out]; exact ⟨.slice none 0 0, rfl, Kd.R_nil _ _ _ _ _, n1_.out⟩) | (refine wpList_store_row rfl 24 (.tmp 2) (.tmp 61) rfl g2 (evC zeroE (.slice none 0 0)) rfl rfl 24 _ BR.out (by kernel_rfl) rfl (by kernel_rfl) ?_; have n0_ : Aside0 ((w8.setRow g2 (evC zeroE (.slice none 0 0))).heap[g2]? = some (.cells (evC zeroE (.slice none 0 0)) 24 (0, 0))) := ⟨setRow_heap _ _ _ _ _ _ BR.out⟩; have n1_ := Aside0.mk (below_setRow HB.out GE2.out (evC zeroE (.slice none 0 0))); generalize w8.setRow g2 (evC zeroE (.slice none 0 0)) = wz at n0_ n1_ ⊢)))
                  | true =>
                    have HNI2 : Aside0 (numsIn (ws.drop a) = (numsIn (ws.drop (b + 1))).map (fun l => (l0 ++ [n]) ++ l)) := ⟨by
                      rw [HNI.out, hdb, numsIn, hnum]
                      cases numsIn (ws.drop (b + 1)) <;> simp⟩
                    have HT7 : Aside0 ((xl.length + 1) * 8 ≤ 140737488355328) := ⟨by omega⟩
                    clear hdb ht hno hnum
                    go_wp2_with (first
                      | (go_at_call 51; refine (number_any t _).mono ?_; rw [HNO.out]; rintro e w8 ⟨rfl, hb⟩; have n0_ := Aside0.mk (below_step HB.out hb); have n1_ := Aside0.mk (blk_below BR.out hb); have n2_ := Aside0.mk (blk_below BX.out hb); have n3_ := Aside0.mk (Kd.R_below HW.out hb); have n4_ := Aside0.mk (Kd.R_below HV.out hb); clear HB BR BX HW HV hb; have HB := n0_; have BR := n1_; have BX := n2_; have HW := n3_; have HV := n4_; clear n0_ n1_ n2_ n3_ n4_; have y7 : w8.cell? ⟨g5, 7, none⟩ = some (.slice U7 xl.length d7) := (blk_cell BX.out 7).trans rfl)
                      | ((with_reducible refine gate_builtin (b := .append) (xs := #[.tmp 63, .tmp 65]) rfl ?_); at_builtin; refine Kd.R_append (Kd.int .i64) (w0 := w) w.heap.size rfl (.tmp 63) (.tmp 65) 22 3 (.int .i64 0) 8 rfl Tryd.underlying22 info3 rfl (by decide) (by omega) (.slice U7 xl.length d7) xl n [.int .i64 n] (fun _ => True) (fun _ => False) rfl rfl ?aP (fun _ hk => hk.elim) (fun _ _ => trivial) ?aO ?aB ?aS ?aL ?_; (case aP => exact rfl); (case aB => exact HB.out); (case aO => exact HV.out); (case aS => exact HB.out.size); (case aL => exact HT7.out); intro u_ w9 ho hb hg_ hat_; obtain ⟨A9, n9, c9, rfl⟩ : ∃ A_ n_ c_, u_ = .slice A_ n_ c_ := (by obtain ⟨A_, c_, e_⟩ := Kd.R_slice ho; exact ⟨A_, _, c_, e_⟩); have n0_ := Aside0.mk (blk_grown BR.out hg_ (Kd.R_ne HV.out BR.out (by decide))); have n1_ := Aside0.mk (blk_grown BX.out hg_ (Kd.R_ne HV.out BX.out (by decide))); have n2_ := Aside0.mk (Kd.R_over' HW.out (Kd.R_typed HV.out) (by decide) hg_); clear BR BX HW HV HB y7; have BR := n0_; have BX := n1_; have HW := n2_; have HV := Aside0.mk ho; have HB := Aside0.mk hb; clear n0_ n1_ n2_ ho hb hg_ hat_; have y7 : w9.cell? ⟨g5, 7, none⟩ = some (.slice U7 xl.length d7) := (blk_cell BX.out 7).trans rfl; have f7 : w9.frozen? ⟨g5, 7, none⟩ = false := blk_frozen BX.out 7))
                    go_roundw
                    case rel => exact ⟨b + 1, l0 ++ [n], .slice A9 n9 c9, by go_num, by omega, by omega, by rw [List.length_append]; simp; omega, HNI2, ⟨(blk_set BX.out 7 _).trans (by rw [← List.append_assoc, ← HXL.out]; rfl)⟩, ⟨by rw [← List.append_assoc, ← HXL.out]; exact Kd.R_set HV.out BX.out (by decide) 7 _⟩, ⟨blk_far BR.out NB.out _⟩, ⟨Kd.R_set HW.out BX.out (by decide) 7 _⟩, ⟨below_setG HB.out GE5.out 7 _⟩⟩
                    case measure => simp [intOf]; omega
                · obtain rfl : b = ws.length := by omega
                  have HRS2 : Aside0 (res = (match lettersR (sh.data.toList.drop (j + 1)) (ws.drop ws.length) ⟨x.f0, x.f1, x.f2, x.f3, x.f4, x.f5, x.f6, xl⟩ with
                          | none => (zeroE, false)
                          | some (y, r) => (y, decide (r = []) && okX y))) := ⟨by
                    have hz : ws.drop ws.length = [] := List.drop_length
                    have hn2 : numsIn (ws.drop a) = some l0 := by rw [HNI.out, hz]; simp [numsIn]
                    rw [HL.out, hn2, hz, HXL.out]⟩
                  go_wp2_with (fail)
                  go_roundw
                  case rel => exact ⟨j + 1, ws.length, ⟨x.f0, x.f1, x.f2, x.f3, x.f4, x.f5, x.f6, xl⟩, .slice U7 xl.length d7, by go_num, rfl, by omega, by omega, by omega, ⟨by have := HXN.out; rw [HXL.out, List.length_append]; omega⟩, HRS2, BX, HV, BR, HW, HB⟩
                  case measure => simp [intOf]; omega
            · by_cases haw : a < ws.length
              rotate_left
              · obtain rfl : a = ws.length := by omega
                have HRES : Aside0 (res = (zeroE, false)) := ⟨by rw [HRS.out, show ws.drop ws.length = [] from List.drop_length, letters_nil e76]⟩
                have e76b : ((sh[j].toNat : Int) == 76) = false := by simp; omega
                clear HRS e76
                go_wp2_with (first
                  | (first | ((with_reducible refine body_id ?_); refine bodyPost_ret (results_ct rfl _ _ g2 24 (evC zeroE (.slice none 0 0)) (0, 0) _ rfl n0_.out Tryd.underlying24 rfl (by kernel_rfl)) rfl ?_; rw [HRES.out]; exact ⟨.slice none 0 0, rfl, Kd.R_nil _ _ _ _ _, n1_.out⟩) | (refine wpList_store_row rfl 24 (.tmp 2) (.tmp 74) rfl g2 (evC zeroE (.slice none 0 0)) rfl rfl 24 _ BR.out (by kernel_rfl) rfl (by kernel_rfl) ?_; have n0_ : Aside0 ((wo.setRow g2 (evC zeroE (.slice none 0 0))).heap[g2]? = some (.cells (evC zeroE (.slice none 0 0)) 24 (0, 0))) := ⟨setRow_heap _ _ _ _ _ _ BR.out⟩; have n1_ := Aside0.mk (below_setRow HB.out GE2.out (evC zeroE (.slice none 0 0))); generalize wo.setRow g2 (evC zeroE (.slice none 0 0)) = wz at n0_ n1_ ⊢)))
              have hda := List.drop_eq_getElem_cons haw
              obtain ⟨t, ht⟩ : ∃ t, t = ws[a] := ⟨_, rfl⟩
              have HAT : Aside0 (ws[a]? = some t) := ⟨by rw [ht]; exact List.getElem?_eq_getElem haw⟩
              have yt : wo.cell? ⟨gw, a, none⟩ = some (.string t) := word_at HW.out a t HAT.out
              rw [← ht] at hda
              have HRC : Aside0 (res = (match (if (valC (sh[j].toNat : Int) t).2 = true then lettersR (sh.data.toList.drop (j + 1)) (ws.drop (a + 1)) (setK x (valC (sh[j].toNat : Int) t).1 (letO (sh[j].toNat : Int))) else none) with
                          | none => (zeroE, false)
                          | some (y, r) => (y, decide (r = []) && okX y))) := ⟨by rw [HRS.out, hda, letters_cons e76]⟩
              clear HRS hda ht
              obtain ⟨n, ok, hno⟩ : ∃ n ok, numR t = (n, ok) := ⟨_, _, rfl⟩
              have HNO := Aside0.mk hno
              clear hno
              by_cases e84 : sh[j].toNat = 84
              · obtain ⟨p, hp⟩ : ∃ p, placeB trapsL t = p := ⟨_, rfl⟩
                have HPL : Aside0 (squintref18_place.f (trapsL.length + 1) trapsL t = some p) := ⟨by rw [place_says trapsL t (by decide), hp]⟩
                have hvc : valC (sh[j].toNat : Int) t = (p, decide (0 < p)) := by
                  unfold valC
                  rw [if_pos (by omega)]
                  rw [hp]
                rw [hvc] at HRC
                have hlo : letO (sh[j].toNat : Int) = 6 := by rw [e84]; rfl
                rw [hlo] at HRC
                clear hp hvc hlo
                by_cases hp0 : 0 < p
                · have d1 : decide (0 < p) = true := decide_eq_true hp0
                  have HR2 : Aside0 (res = (match lettersR (sh.data.toList.drop (j + 1)) (ws.drop (a + 1)) (setK x p 6) with
                              | none => (zeroE, false)
                              | some (y, r) => (y, decide (r = []) && okX y))) := ⟨by rw [HRC.out, d1, if_pos rfl]⟩
                  have e76 : ((sh[j].toNat : Int) == 76) = false := by simp; omega
                  have e84 : ((sh[j].toNat : Int) == 84) = true := by simp; omega
                  have e83 : ((sh[j].toNat : Int) == 83) = false := by simp; omega
                  go_wp2_with (first
                    | (go_at_call 51; refine (number_any t _).mono ?_; rw [HNO.out]; rintro e w8 ⟨rfl, hb⟩; have n0_ := Aside0.mk (below_step HB.out hb); have n1_ := Aside0.mk (blk_below BR.out hb); have n2_ := Aside0.mk (blk_below BX.out hb); have n3_ := Aside0.mk (Kd.R_below HW.out hb); have n4_ := Aside0.mk (Kd.R_below HV.out hb); clear HB BR BX HW HV hb; have HB := n0_; have BR := n1_; have BX := n2_; have HW := n3_; have HV := n4_; clear n0_ n1_ n2_ n3_ n4_; clear yt; have yt : w8.cell? ⟨gw, a, none⟩ = some (.string t) := word_at HW.out a t HAT.out))
                  go_region_with (first
                    | (go_at_call 29; refine (squintref18_traps.calls _ _ rfl).mono ?_; rintro e w9 ⟨v9, rfl, hR, hb0⟩; have hb := below_then (below_drew (Below.refl _ w8)) (Nat.le_refl _) hb0; obtain ⟨At, ct, rfl, hct, hCt⟩ := Kd.R_reads hR; have n0_ := Aside0.mk (below_step HB.out hb); have n1_ := Aside0.mk (blk_below BR.out hb); have n2_ := Aside0.mk (blk_below BX.out hb); have n3_ := Aside0.mk (Kd.R_below HW.out hb); have n4_ := Aside0.mk (Kd.R_below HV.out hb); clear HB BR BX HW HV hb; have HB := n0_; have BR := n1_; have BX := n2_; have HW := n3_; have HV := n4_; clear n0_ n1_ n2_ n3_ n4_; have HCT := Aside0.mk hCt; have HCTL := Aside0.mk hct; clear hb0 hR hct hCt yt; have yt : w9.cell? ⟨gw, a, none⟩ = some (.string t) := word_at HW.out a t HAT.out)
                    | (go_at_call 52; refine (squintref18_place.calls (trapsL.length + 1) At ct trapsL t p _ HCT.out HCTL.out HPL.out).mono ?_; rintro e w10 ⟨rfl, hd⟩; have hb := hd.below; have n0_ := Aside0.mk (below_step HB.out hb); have n1_ := Aside0.mk (blk_below BR.out hb); have n2_ := Aside0.mk (blk_below BX.out hb); have n3_ := Aside0.mk (Kd.R_below HW.out hb); have n4_ := Aside0.mk (Kd.R_below HV.out hb); clear HB BR BX HW HV hb; have HB := n0_; have BR := n1_; have BX := n2_; have HW := n3_; have HV := n4_; clear n0_ n1_ n2_ n3_ n4_; clear hd HCT yt; have q5 : w10.cell? ⟨g5, 6, none⟩ = some (.int .i64 (getK x 6)) := (blk_cell BX.out 6).trans (ev_get x _ 6 (by omega) (by omega)); have f5 : w10.frozen? ⟨g5, 6, none⟩ = false := blk_frozen BX.out 6))
                  all_goals
                    go_wp2_with (first
                      | (go_at_call 28; refine (field_at g5 84 6 _ x (.slice A7 x.f7.length c7) BX.out rfl).mono ?_; rintro e w6_ ⟨rfl, hw⟩; rw [hw]; clear hw w6_))
                    go_roundw
                    case rel => exact ⟨j + 1, a + 1, setK x p 6, .slice A7 x.f7.length c7, by go_num, by go_num, by omega, by omega, by omega, ⟨by rw [setK_f7]; have := HXN.out; omega⟩, HR2, ⟨(blk_set BX.out _ _).trans (by rw [setK_cells x _ p 6 (by omega) (by omega)])⟩, ⟨by rw [setK_f7]; exact Kd.R_set HV.out BX.out (by decide) _ _⟩, ⟨blk_far BR.out NB.out _⟩, ⟨Kd.R_set HW.out BX.out (by decide) _ _⟩, ⟨below_setG HB.out GE5.out _ _⟩⟩
                    case measure => simp [intOf]; omega
                · have d1 : decide (0 < p) = false := decide_eq_false hp0
                  have HRES : Aside0 (res = (zeroE, false)) := ⟨by rw [HRC.out, d1, if_neg (by simp)]⟩
                  have e76 : ((sh[j].toNat : Int) == 76) = false := by simp; omega
                  have e84 : ((sh[j].toNat : Int) == 84) = true := by simp; omega
                  have e83 : ((sh[j].toNat : Int) == 83) = false := by simp; omega
                  go_wp2_with (first
                    | (go_at_call 51; refine (number_any t _).mono ?_; rw [HNO.out]; rintro e w8 ⟨rfl, hb⟩; have n0_ := Aside0.mk (below_step HB.out hb); have n1_ := Aside0.mk (blk_below BR.out hb); have n2_ := Aside0.mk (blk_below BX.out hb); have n3_ := Aside0.mk (Kd.R_below HW.out hb); have n4_ := Aside0.mk (Kd.R_below HV.out hb); clear HB BR BX HW HV hb; have HB := n0_; have BR := n1_; have BX := n2_; have HW := n3_; have HV := n4_; clear n0_ n1_ n2_ n3_ n4_; clear yt; have yt : w8.cell? ⟨gw, a, none⟩ = some (.string t) := word_at HW.out a t HAT.out))
                  go_region_with (first
                    | (go_at_call 29; refine (squintref18_traps.calls _ _ rfl).mono ?_; rintro e w9 ⟨v9, rfl, hR, hb0⟩; have hb := below_then (below_drew (Below.refl _ w8)) (Nat.le_refl _) hb0; obtain ⟨At, ct, rfl, hct, hCt⟩ := Kd.R_reads hR; have n0_ := Aside0.mk (below_step HB.out hb); have n1_ := Aside0.mk (blk_below BR.out hb); have n2_ := Aside0.mk (blk_below BX.out hb); have n3_ := Aside0.mk (Kd.R_below HW.out hb); have n4_ := Aside0.mk (Kd.R_below HV.out hb); clear HB BR BX HW HV hb; have HB := n0_; have BR := n1_; have BX := n2_; have HW := n3_; have HV := n4_; clear n0_ n1_ n2_ n3_ n4_; have HCT := Aside0.mk hCt; have HCTL := Aside0.mk hct; clear hb0 hR hct hCt yt; have yt : w9.cell? ⟨gw, a, none⟩ = some (.string t) := word_at HW.out a t HAT.out)
                    | (go_at_call 52; refine (squintref18_place.calls (trapsL.length + 1) At ct trapsL t p _ HCT.out HCTL.out HPL.out).mono ?_; rintro e w10 ⟨rfl, hd⟩; have hb := hd.below; have n0_ := Aside0.mk (below_step HB.out hb); have n1_ := Aside0.mk (blk_below BR.out hb); have n2_ := Aside0.mk (blk_below BX.out hb); have n3_ := Aside0.mk (Kd.R_below HW.out hb); have n4_ := Aside0.mk (Kd.R_below HV.out hb); clear HB BR BX HW HV hb; have HB := n0_; have BR := n1_; have BX := n2_; have HW := n3_; have HV := n4_; clear n0_ n1_ n2_ n3_ n4_; clear hd HCT yt; have q5 : w10.cell? ⟨g5, 6, none⟩ = some (.int .i64 (getK x 6)) := (blk_cell BX.out 6).trans (ev_get x _ 6 (by omega) (by omega)); have f5 : w10.frozen? ⟨g5, 6, none⟩ = false := blk_frozen BX.out 6))
                  all_goals
                    go_wp2_with (first
                      | (first | ((with_reducible refine body_id ?_); refine bodyPost_ret (results_ct rfl _ _ g2 24 (evC zeroE (.slice none 0 0)) (0, 0) _ rfl n0_.out Tryd.underlying24 rfl (by kernel_rfl)) rfl ?_; rw [HRES.out]; exact ⟨.slice none 0 0, rfl, Kd.R_nil _ _ _ _ _, n1_.out⟩) | (refine wpList_store_row rfl 24 (.tmp 2) (.tmp 108) rfl g2 (evC zeroE (.slice none 0 0)) rfl rfl 24 _ BR.out (by kernel_rfl) rfl (by kernel_rfl) ?_; have n0_ : Aside0 ((w10.setRow g2 (evC zeroE (.slice none 0 0))).heap[g2]? = some (.cells (evC zeroE (.slice none 0 0)) 24 (0, 0))) := ⟨setRow_heap _ _ _ _ _ _ BR.out⟩; have n1_ := Aside0.mk (below_setRow HB.out GE2.out (evC zeroE (.slice none 0 0))); generalize w10.setRow g2 (evC zeroE (.slice none 0 0)) = wz at n0_ n1_ ⊢)))
              by_cases e83 : sh[j].toNat = 83
              · obtain ⟨p, hp⟩ : ∃ p, placeB countersL t = p := ⟨_, rfl⟩
                have HPL : Aside0 (squintref18_place.f (countersL.length + 1) countersL t = some p) := ⟨by rw [place_says countersL t (by decide), hp]⟩
                have hvc : valC (sh[j].toNat : Int) t = (p, decide (0 < p)) := by
                  unfold valC
                  rw [if_neg (by omega), if_pos (by omega)]
                  rw [hp]
                rw [hvc] at HRC
                have hlo : letO (sh[j].toNat : Int) = 6 := by rw [e83]; rfl
                rw [hlo] at HRC
                clear hp hvc hlo
                by_cases hp0 : 0 < p
                · have d1 : decide (0 < p) = true := decide_eq_true hp0
                  have HR2 : Aside0 (res = (match lettersR (sh.data.toList.drop (j + 1)) (ws.drop (a + 1)) (setK x p 6) with
                              | none => (zeroE, false)
                              | some (y, r) => (y, decide (r = []) && okX y))) := ⟨by rw [HRC.out, d1, if_pos rfl]⟩
                  have e76 : ((sh[j].toNat : Int) == 76) = false := by simp; omega
                  have e84 : ((sh[j].toNat : Int) == 84) = false := by simp; omega
                  have e83 : ((sh[j].toNat : Int) == 83) = true := by simp; omega
                  go_wp2_with (first
                    | (go_at_call 51; refine (number_any t _).mono ?_; rw [HNO.out]; rintro e w8 ⟨rfl, hb⟩; have n0_ := Aside0.mk (below_step HB.out hb); have n1_ := Aside0.mk (blk_below BR.out hb); have n2_ := Aside0.mk (blk_below BX.out hb); have n3_ := Aside0.mk (Kd.R_below HW.out hb); have n4_ := Aside0.mk (Kd.R_below HV.out hb); clear HB BR BX HW HV hb; have HB := n0_; have BR := n1_; have BX := n2_; have HW := n3_; have HV := n4_; clear n0_ n1_ n2_ n3_ n4_; clear yt; have yt : w8.cell? ⟨gw, a, none⟩ = some (.string t) := word_at HW.out a t HAT.out))
                  go_region_with (first
                    | (go_at_call 30; refine (squintref18_counters.calls _ _ rfl).mono ?_; rintro e w9 ⟨v9, rfl, hR, hb0⟩; have hb := below_then (below_drew (Below.refl _ w8)) (Nat.le_refl _) hb0; obtain ⟨At, ct, rfl, hct, hCt⟩ := Kd.R_reads hR; have n0_ := Aside0.mk (below_step HB.out hb); have n1_ := Aside0.mk (blk_below BR.out hb); have n2_ := Aside0.mk (blk_below BX.out hb); have n3_ := Aside0.mk (Kd.R_below HW.out hb); have n4_ := Aside0.mk (Kd.R_below HV.out hb); clear HB BR BX HW HV hb; have HB := n0_; have BR := n1_; have BX := n2_; have HW := n3_; have HV := n4_; clear n0_ n1_ n2_ n3_ n4_; have HCT := Aside0.mk hCt; have HCTL := Aside0.mk hct; clear hb0 hR hct hCt yt; have yt : w9.cell? ⟨gw, a, none⟩ = some (.string t) := word_at HW.out a t HAT.out)
                    | (go_at_call 52; refine (squintref18_place.calls (countersL.length + 1) At ct countersL t p _ HCT.out HCTL.out HPL.out).mono ?_; rintro e w10 ⟨rfl, hd⟩; have hb := hd.below; have n0_ := Aside0.mk (below_step HB.out hb); have n1_ := Aside0.mk (blk_below BR.out hb); have n2_ := Aside0.mk (blk_below BX.out hb); have n3_ := Aside0.mk (Kd.R_below HW.out hb); have n4_ := Aside0.mk (Kd.R_below HV.out hb); clear HB BR BX HW HV hb; have HB := n0_; have BR := n1_; have BX := n2_; have HW := n3_; have HV := n4_; clear n0_ n1_ n2_ n3_ n4_; clear hd HCT yt; have q5 : w10.cell? ⟨g5, 6, none⟩ = some (.int .i64 (getK x 6)) := (blk_cell BX.out 6).trans (ev_get x _ 6 (by omega) (by omega)); have f5 : w10.frozen? ⟨g5, 6, none⟩ = false := blk_frozen BX.out 6))
                  all_goals
                    go_wp2_with (first
                      | (go_at_call 28; refine (field_at g5 83 6 _ x (.slice A7 x.f7.length c7) BX.out rfl).mono ?_; rintro e w6_ ⟨rfl, hw⟩; rw [hw]; clear hw w6_))
                    go_roundw
                    case rel => exact ⟨j + 1, a + 1, setK x p 6, .slice A7 x.f7.length c7, by go_num, by go_num, by omega, by omega, by omega, ⟨by rw [setK_f7]; have := HXN.out; omega⟩, HR2, ⟨(blk_set BX.out _ _).trans (by rw [setK_cells x _ p 6 (by omega) (by omega)])⟩, ⟨by rw [setK_f7]; exact Kd.R_set HV.out BX.out (by decide) _ _⟩, ⟨blk_far BR.out NB.out _⟩, ⟨Kd.R_set HW.out BX.out (by decide) _ _⟩, ⟨below_setG HB.out GE5.out _ _⟩⟩
                    case measure => simp [intOf]; omega
                · have d1 : decide (0 < p) = false := decide_eq_false hp0
                  have HRES : Aside0 (res = (zeroE, false)) := ⟨by rw [HRC.out, d1, if_neg (by simp)]⟩
                  have e76 : ((sh[j].toNat : Int) == 76) = false := by simp; omega
                  have e84 : ((sh[j].toNat : Int) == 84) = false := by simp; omega
                  have e83 : ((sh[j].toNat : Int) == 83) = true := by simp; omega
                  go_wp2_with (first
                    | (go_at_call 51; refine (number_any t _).mono ?_; rw [HNO.out]; rintro e w8 ⟨rfl, hb⟩; have n0_ := Aside0.mk (below_step HB.out hb); have n1_ := Aside0.mk (blk_below BR.out hb); have n2_ := Aside0.mk (blk_below BX.out hb); have n3_ := Aside0.mk (Kd.R_below HW.out hb); have n4_ := Aside0.mk (Kd.R_below HV.out hb); clear HB BR BX HW HV hb; have HB := n0_; have BR := n1_; have BX := n2_; have HW := n3_; have HV := n4_; clear n0_ n1_ n2_ n3_ n4_; clear yt; have yt : w8.cell? ⟨gw, a, none⟩ = some (.string t) := word_at HW.out a t HAT.out))
                  go_region_with (first
                    | (go_at_call 30; refine (squintref18_counters.calls _ _ rfl).mono ?_; rintro e w9 ⟨v9, rfl, hR, hb0⟩; have hb := below_then (below_drew (Below.refl _ w8)) (Nat.le_refl _) hb0; obtain ⟨At, ct, rfl, hct, hCt⟩ := Kd.R_reads hR; have n0_ := Aside0.mk (below_step HB.out hb); have n1_ := Aside0.mk (blk_below BR.out hb); have n2_ := Aside0.mk (blk_below BX.out hb); have n3_ := Aside0.mk (Kd.R_below HW.out hb); have n4_ := Aside0.mk (Kd.R_below HV.out hb); clear HB BR BX HW HV hb; have HB := n0_; have BR := n1_; have BX := n2_; have HW := n3_; have HV := n4_; clear n0_ n1_ n2_ n3_ n4_; have HCT := Aside0.mk hCt; have HCTL := Aside0.mk hct; clear hb0 hR hct hCt yt; have yt : w9.cell? ⟨gw, a, none⟩ = some (.string t) := word_at HW.out a t HAT.out)
                    | (go_at_call 52; refine (squintref18_place.calls (countersL.length + 1) At ct countersL t p _ HCT.out HCTL.out HPL.out).mono ?_; rintro e w10 ⟨rfl, hd⟩; have hb := hd.below; have n0_ := Aside0.mk (below_step HB.out hb); have n1_ := Aside0.mk (blk_below BR.out hb); have n2_ := Aside0.mk (blk_below BX.out hb); have n3_ := Aside0.mk (Kd.R_below HW.out hb); have n4_ := Aside0.mk (Kd.R_below HV.out hb); clear HB BR BX HW HV hb; have HB := n0_; have BR := n1_; have BX := n2_; have HW := n3_; have HV := n4_; clear n0_ n1_ n2_ n3_ n4_; clear hd HCT yt; have q5 : w10.cell? ⟨g5, 6, none⟩ = some (.int .i64 (getK x 6)) := (blk_cell BX.out 6).trans (ev_get x _ 6 (by omega) (by omega)); have f5 : w10.frozen? ⟨g5, 6, none⟩ = false := blk_frozen BX.out 6))
                  all_goals
                    go_wp2_with (first
                      | (first | ((with_reducible refine body_id ?_); refine bodyPost_ret (results_ct rfl _ _ g2 24 (evC zeroE (.slice none 0 0)) (0, 0) _ rfl n0_.out Tryd.underlying24 rfl (by kernel_rfl)) rfl ?_; rw [HRES.out]; exact ⟨.slice none 0 0, rfl, Kd.R_nil _ _ _ _ _, n1_.out⟩) | (refine wpList_store_row rfl 24 (.tmp 2) (.tmp 108) rfl g2 (evC zeroE (.slice none 0 0)) rfl rfl 24 _ BR.out (by kernel_rfl) rfl (by kernel_rfl) ?_; have n0_ : Aside0 ((w10.setRow g2 (evC zeroE (.slice none 0 0))).heap[g2]? = some (.cells (evC zeroE (.slice none 0 0)) 24 (0, 0))) := ⟨setRow_heap _ _ _ _ _ _ BR.out⟩; have n1_ := Aside0.mk (below_setRow HB.out GE2.out (evC zeroE (.slice none 0 0))); generalize w10.setRow g2 (evC zeroE (.slice none 0 0)) = wz at n0_ n1_ ⊢)))
              · have hvc : valC (sh[j].toNat : Int) t = (n, ok) := by
                  unfold valC
                  rw [if_neg (by omega), if_neg (by omega), HNO.out]
                rw [hvc] at HRC
                clear hvc
                obtain ⟨o, ho⟩ : ∃ o, letO (sh[j].toNat : Int) = o := ⟨_, rfl⟩
                have hob : 1 ≤ o ∧ o ≤ 6 := by rw [← ho]; exact letO_le _
                rw [ho] at HRC
                have HOO := Aside0.mk ho
                clear ho
                cases ok with
                | false =>
                  have HRES : Aside0 (res = (zeroE, false)) := ⟨by rw [HRC.out, if_neg (by simp)]⟩
                  have e76 : ((sh[j].toNat : Int) == 76) = false := by simp; omega
                  have e84 : ((sh[j].toNat : Int) == 84) = false := by simp; omega
                  have e83 : ((sh[j].toNat : Int) == 83) = false := by simp; omega
                  go_wp2_with (first
                    | (go_at_call 51; refine (number_any t _).mono ?_; rw [HNO.out]; rintro e w8 ⟨rfl, hb⟩; have n0_ := Aside0.mk (below_step HB.out hb); have n1_ := Aside0.mk (blk_below BR.out hb); have n2_ := Aside0.mk (blk_below BX.out hb); have n3_ := Aside0.mk (Kd.R_below HW.out hb); have n4_ := Aside0.mk (Kd.R_below HV.out hb); clear HB BR BX HW HV hb; have HB := n0_; have BR := n1_; have BX := n2_; have HW := n3_; have HV := n4_; clear n0_ n1_ n2_ n3_ n4_)
                    | (first | ((with_reducible refine body_id ?_); refine bodyPost_ret (results_ct rfl _ _ g2 24 (evC zeroE (.slice none 0 0)) (0, 0) _ rfl n0_.out Tryd.underlying24 rfl (by kernel_rfl)) rfl ?_; rw [HRES.out]; exact ⟨.slice none 0 0, rfl, Kd.R_nil _ _ _ _ _, n1_.out⟩) | (refine wpList_store_row rfl 24 (.tmp 2) (.tmp 108) rfl g2 (evC zeroE (.slice none 0 0)) rfl rfl 24 _ BR.out (by kernel_rfl) rfl (by kernel_rfl) ?_; have n0_ : Aside0 ((w8.setRow g2 (evC zeroE (.slice none 0 0))).heap[g2]? = some (.cells (evC zeroE (.slice none 0 0)) 24 (0, 0))) := ⟨setRow_heap _ _ _ _ _ _ BR.out⟩; have n1_ := Aside0.mk (below_setRow HB.out GE2.out (evC zeroE (.slice none 0 0))); generalize w8.setRow g2 (evC zeroE (.slice none 0 0)) = wz at n0_ n1_ ⊢)))
                | true =>
                  have HR2 : Aside0 (res = (match lettersR (sh.data.toList.drop (j + 1)) (ws.drop (a + 1)) (setK x n o) with
                            | none => (zeroE, false)
                            | some (y, r) => (y, decide (r = []) && okX y))) := ⟨by rw [HRC.out, if_pos rfl]⟩
                  have e76 : ((sh[j].toNat : Int) == 76) = false := by simp; omega
                  have e84 : ((sh[j].toNat : Int) == 84) = false := by simp; omega
                  have e83 : ((sh[j].toNat : Int) == 83) = false := by simp; omega
                  go_wp2_with (first
                    | (go_at_call 51; refine (number_any t _).mono ?_; rw [HNO.out]; rintro e w8 ⟨rfl, hb⟩; have n0_ := Aside0.mk (below_step HB.out hb); have n1_ := Aside0.mk (blk_below BR.out hb); have n2_ := Aside0.mk (blk_below BX.out hb); have n3_ := Aside0.mk (Kd.R_below HW.out hb); have n4_ := Aside0.mk (Kd.R_below HV.out hb); clear HB BR BX HW HV hb; have HB := n0_; have BR := n1_; have BX := n2_; have HW := n3_; have HV := n4_; clear n0_ n1_ n2_ n3_ n4_; have q5 : w8.cell? ⟨g5, o, none⟩ = some (.int .i64 (getK x o)) := (blk_cell BX.out o).trans (ev_get x _ o (by omega) (by omega)); have f5 : w8.frozen? ⟨g5, o, none⟩ = false := blk_frozen BX.out o)
                    | (go_at_call 28; refine (field_at g5 _ o _ x (.slice A7 x.f7.length c7) BX.out HOO.out).mono ?_; rintro e w6_ ⟨rfl, hw⟩; rw [hw]; clear hw w6_))
                  go_roundw
                  case rel => exact ⟨j + 1, a + 1, setK x n o, .slice A7 x.f7.length c7, by go_num, by go_num, by omega, by omega, by omega, ⟨by rw [setK_f7]; have := HXN.out; omega⟩, HR2, ⟨(blk_set BX.out _ _).trans (by rw [setK_cells x _ n o (by omega) (by omega)])⟩, ⟨by rw [setK_f7]; exact Kd.R_set HV.out BX.out (by decide) _ _⟩, ⟨blk_far BR.out NB.out _⟩, ⟨Kd.R_set HW.out BX.out (by decide) _ _⟩, ⟨below_setG HB.out GE5.out _ _⟩⟩
                  case measure => simp [intOf]; omega
          · obtain rfl : j = sh.size := by omega
            have hz : sh.data.toList.drop sh.size = [] := List.drop_eq_nil_of_le (Nat.le_of_eq rfl)
            rw [hz] at HRS
            clear hz
            by_cases haw : a = ws.length
            · have hda : ws.drop a = [] := by rw [haw]; exact List.drop_length
              have HRES : Aside0 (res = (x, okX x)) := ⟨by rw [HRS.out, hda]; simp [lettersR]⟩
              have HOK : Aside0 ((checkOf x == 0) = okX x) := ⟨by rw [checkOf_ok]; cases okX x <;> rfl⟩
              have eab : ((a : Int) == (ws.length : Int)) = true := by simp; omega
              clear HRS hda haw
              go_upto_region 37 with (fail)
              have n0_ := Aside0.mk (blk_drew BX.out)
              have n1_ := Aside0.mk (blk_drew BR.out)
              have n2_ := Aside0.mk (Kd.R_drew HV.out)
              have n4_ := Aside0.mk (below_drew1 HB.out)
              refine start_ (n := 12) (S := fun w' => w'.cell? ⟨g5, 0, none⟩ = some (.int .i64 x.f0) ∧ w'.cell? ⟨g5, 1, none⟩ = some (.int .i64 x.f1) ∧ w'.cell? ⟨g5, 2, none⟩ = some (.int .i64 x.f2) ∧ w'.cell? ⟨g5, 3, none⟩ = some (.int .i64 x.f3) ∧ w'.cell? ⟨g5, 4, none⟩ = some (.int .i64 x.f4) ∧ w'.cell? ⟨g5, 5, none⟩ = some (.int .i64 x.f5) ∧ w'.cell? ⟨g5, 6, none⟩ = some (.int .i64 x.f6) ∧ w'.cell? ⟨g5, 7, none⟩ = some (.slice A7 x.f7.length c7)) (ds := [10]) #[false, false, false, false, false, false, false, false, false, false, false, false] (by kernel_rfl) rfl rfl ⟨(blk_cell n0_.out 0).trans rfl, (blk_cell n0_.out 1).trans rfl, (blk_cell n0_.out 2).trans rfl, (blk_cell n0_.out 3).trans rfl, (blk_cell n0_.out 4).trans rfl, (blk_cell n0_.out 5).trans rfl, (blk_cell n0_.out 6).trans rfl, (blk_cell n0_.out 7).trans rfl⟩ (fun hHeld => ?_)
              refine with_tabW ev37tab ev37bits (fun HT_ HW_ => ?_)
              generalize wo.drew = w2 at n0_ n1_ n2_ n4_ hHeld ⊢
              clear BX BR HV HB
              have BX := n0_
              have BR := n1_
              have HV := n2_
              have HB := n4_
              clear n0_ n1_ n2_ n4_
              refine take_ (i := 0) (N := some 118) (v := ?_) (a' := ?_) #[true, false, false, false, false, false, false, false, false, false, false, false] rfl rfl (take_ofW HT_.out HW_.out (by kernel_rfl)) (fun _ _ _ h => h) (Or.inl ⟨by rfl, ?_⟩) hHeld ?_ ?_
              rotate_left
              · rintro w' ⟨s0, s1, s2, s3, s4, s5, s6, s7⟩
                go_simp
                with_reducible rfl
              rotate_left
              · simp only [Act.put, List.setIfInBounds_toArray, List.set_cons_zero, List.set_cons_succ, i64_w, i32_w]
                rfl
              refine pure_ (i := 1) (N := some 119) (v := ?_) (a' := ?_) #[true, true, false, false, false, false, false, false, false, false, false, false] rfl rfl (any_of HT_.out (by kernel_rfl)) (fun _ _ _ h => h) (Or.inl ⟨by rfl, ?_⟩) ?_ ?_
              rotate_left
              · intro w'
                go_simp
                with_reducible rfl
              rotate_left
              · simp only [Act.put, List.setIfInBounds_toArray, List.set_cons_zero, List.set_cons_succ, i64_w, i32_w]
                rfl
              refine pure_ (i := 2) (N := some 120) (v := ?_) (a' := ?_) #[true, true, true, false, false, false, false, false, false, false, false, false] rfl rfl (any_of HT_.out (by kernel_rfl)) (fun _ _ _ h => h) (Or.inl ⟨by rfl, ?_⟩) ?_ ?_
              rotate_left
              · intro w'
                go_simp
                with_reducible rfl
              rotate_left
              · simp only [Act.put, List.setIfInBounds_toArray, List.set_cons_zero, List.set_cons_succ, i64_w, i32_w]
                rfl
              refine pure_ (i := 3) (N := some 121) (v := ?_) (a' := ?_) #[true, true, true, true, false, false, false, false, false, false, false, false] rfl rfl (any_of HT_.out (by kernel_rfl)) (fun _ _ _ h => h) (Or.inl ⟨by rfl, ?_⟩) ?_ ?_
              rotate_left
              · intro w'
                go_simp
                with_reducible rfl
              rotate_left
              · simp only [Act.put, List.setIfInBounds_toArray, List.set_cons_zero, List.set_cons_succ, i64_w, i32_w]
                rfl
              refine pure_ (i := 4) (N := some 122) (v := ?_) (a' := ?_) #[true, true, true, true, true, false, false, false, false, false, false, false] rfl rfl (any_of HT_.out (by kernel_rfl)) (fun _ _ _ h => h) (Or.inl ⟨by rfl, ?_⟩) ?_ ?_
              rotate_left
              · intro w'
                go_simp
                with_reducible rfl
              rotate_left
              · simp only [Act.put, List.setIfInBounds_toArray, List.set_cons_zero, List.set_cons_succ, i64_w, i32_w]
                rfl
              refine pure_ (i := 5) (N := some 123) (v := ?_) (a' := ?_) #[true, true, true, true, true, true, false, false, false, false, false, false] rfl rfl (any_of HT_.out (by kernel_rfl)) (fun _ _ _ h => h) (Or.inl ⟨by rfl, ?_⟩) ?_ ?_
              rotate_left
              · intro w'
                go_simp
                with_reducible rfl
              rotate_left
              · simp only [Act.put, List.setIfInBounds_toArray, List.set_cons_zero, List.set_cons_succ, i64_w, i32_w]
                rfl
              refine take_ (i := 6) (N := some 124) (v := ?_) (a' := ?_) #[true, true, true, true, true, true, true, false, false, false, false, false] rfl rfl (take_ofW HT_.out HW_.out (by kernel_rfl)) (fun _ _ _ h => h) (Or.inl ⟨by rfl, ?_⟩) hHeld ?_ ?_
              rotate_left
              · rintro w' ⟨s0, s1, s2, s3, s4, s5, s6, s7⟩
                go_simp
                with_reducible rfl
              rotate_left
              · simp only [Act.put, List.setIfInBounds_toArray, List.set_cons_zero, List.set_cons_succ, i64_w, i32_w]
                rfl
              refine one_ (i := 7) (N := some 125) #[true, true, true, true, true, true, true, true, false, false, false, false] rfl rfl (one_of HT_.out (by kernel_rfl)) (by decide) (fun K hK => ?_)
              refine goes_ Tryd.func11 (by kernel_rfl) rfl #[evV x A7 c7] (by rfl) rfl rfl (by (try simp only [List.map_toArray, List.map_cons, List.map_nil]); first | done | rfl) ?_
              refine (ref_any x A7 c7 _ (by obtain ⟨A_, c_, e_, _, hC_⟩ := Kd.R_reads HV.out; injection e_ with e1_ _ e2_; subst e1_; exact hC_) (by obtain ⟨A_, c_, e_, h_, _⟩ := Kd.R_reads HV.out; injection e_ with _ _ e2_; subst e2_; exact h_)).mono ?_
              rintro e w3 ⟨rfl, hb⟩
              refine ⟨_, rfl, ?_⟩
              have n0_ := Aside0.mk (blk_below BX.out hb)
              have n1_ := Aside0.mk (blk_below BR.out hb)
              have n2_ := Aside0.mk (Kd.R_below HV.out hb)
              have n4_ := Aside0.mk (below_step HB.out hb)
              clear BX BR HV HB hb
              have BX := n0_
              have BR := n1_
              have HV := n2_
              have HB := n4_
              clear n0_ n1_ n2_ n4_
              refine hK.out _ _ ⟨(blk_cell BX.out 0).trans rfl, (blk_cell BX.out 1).trans rfl, (blk_cell BX.out 2).trans rfl, (blk_cell BX.out 3).trans rfl, (blk_cell BX.out 4).trans rfl, (blk_cell BX.out 5).trans rfl, (blk_cell BX.out 6).trans rfl, (blk_cell BX.out 7).trans rfl⟩ (fun hHeld => ?_)
              clear hK K
              refine norm_ (a' := ?_) ?_ ?_
              rotate_left
              · show Act.put _ (some 125) _ = _
                simp only [Act.put, List.setIfInBounds_toArray, List.set_cons_zero, List.set_cons_succ, i64_w, i32_w]
                rfl
              refine pure_ (i := 8) (N := some 126) (v := ?_) (a' := ?_) #[true, true, true, true, true, true, true, true, true, false, false, false] rfl rfl (any_of HT_.out (by kernel_rfl)) (fun _ _ _ h => h) (Or.inl ⟨by rfl, ?_⟩) ?_ ?_
              rotate_left
              · intro w'
                go_simp
                with_reducible rfl
              rotate_left
              · simp only [Act.put, List.setIfInBounds_toArray, List.set_cons_zero, List.set_cons_succ, i64_w, i32_w]
                rfl
              refine pure_ (i := 9) (N := some 127) (v := ?_) (a' := ?_) #[true, true, true, true, true, true, true, true, true, true, false, false] rfl rfl (any_of HT_.out (by kernel_rfl)) (fun _ _ _ h => h) (Or.inl ⟨by rfl, ?_⟩) ?_ ?_
              rotate_left
              · intro w'
                go_simp
                with_reducible rfl
              rotate_left
              · simp only [Act.put, List.setIfInBounds_toArray, List.set_cons_zero, List.set_cons_succ, i64_w, i32_w]
                rfl
              refine last_ (i := 10) (N := none) #[true, true, true, true, true, true, true, true, true, true, true, false] rfl rfl (one_of HT_.out (by kernel_rfl)) (by decide) (fun K hK => ?_)
              refine store_row_step (by rfl) ?_
              refine wp_store_row 24 (.tmp 2) (.tmp 118) rfl g2 (evC x (.slice A7 x.f7.length c7)) rfl rfl 24 _ BR.out (by kernel_rfl) rfl (by kernel_rfl) ?_
              refine hK.out _ _ ?_
              clear hK K
              refine pure_ (i := 11) (N := some 3) (v := ?_) (a' := ?_) #[true, true, true, true, true, true, true, true, true, true, true, true] rfl rfl (any_of HT_.out (by kernel_rfl)) (fun _ _ _ h => h) (Or.inl ⟨by rfl, ?_⟩) ?_ ?_
              rotate_left
              · intro w'
                go_simp
                with_reducible rfl
              rotate_left
              · simp only [Act.put, List.setIfInBounds_toArray, List.set_cons_zero, List.set_cons_succ, i64_w, i32_w]
                rfl
              refine done_ (done_of HT_.out (by kernel_rfl)) ?_
              have n0_ : Aside0 ((w3.setRow g2 (evC x (.slice A7 x.f7.length c7))).heap[g2]? = some (.cells (evC x (.slice A7 x.f7.length c7)) 24 (0, 0))) := ⟨setRow_heap _ _ _ _ _ _ BR.out⟩
              have n1_ := Aside0.mk (below_setRow HB.out GE2.out (evC x (.slice A7 x.f7.length c7)))
              have n2_ := Aside0.mk (Kd.R_mono (R_setRow HV.out BR.out (by decide) (cs' := (evC x (.slice A7 x.f7.length c7)))) (fun _ _ => trivial))
              generalize w3.setRow g2 (evC x (.slice A7 x.f7.length c7)) = wz at n0_ n1_ n2_ ⊢
              go_wp2_with (first | ((with_reducible refine body_id ?_); refine bodyPost_ret (results_ct rfl _ _ g2 24 (evC x (.slice A7 x.f7.length c7)) (0, 0) _ rfl n0_.out Tryd.underlying24 rfl (by kernel_rfl)) rfl ?_; rw [HRES.out]; exact ⟨_, by first | rfl | (rw [HOK.out]; rfl), n2_.out, n1_.out⟩))
            · have hda : decide (ws.drop a = []) = false := by simp; omega
              have HRES : Aside0 (res = (x, false)) := ⟨by rw [HRS.out]; simp only [lettersR, hda, Bool.false_and]⟩
              have eab : ((a : Int) == (ws.length : Int)) = false := by simp; omega
              clear HRS hda
              go_upto_region 37 with (fail)
              have n0_ := Aside0.mk (blk_drew BX.out)
              have n1_ := Aside0.mk (blk_drew BR.out)
              have n2_ := Aside0.mk (Kd.R_drew HV.out)
              have n4_ := Aside0.mk (below_drew1 HB.out)
              refine start_ (n := 12) (S := fun w' => w'.cell? ⟨g5, 0, none⟩ = some (.int .i64 x.f0) ∧ w'.cell? ⟨g5, 1, none⟩ = some (.int .i64 x.f1) ∧ w'.cell? ⟨g5, 2, none⟩ = some (.int .i64 x.f2) ∧ w'.cell? ⟨g5, 3, none⟩ = some (.int .i64 x.f3) ∧ w'.cell? ⟨g5, 4, none⟩ = some (.int .i64 x.f4) ∧ w'.cell? ⟨g5, 5, none⟩ = some (.int .i64 x.f5) ∧ w'.cell? ⟨g5, 6, none⟩ = some (.int .i64 x.f6) ∧ w'.cell? ⟨g5, 7, none⟩ = some (.slice A7 x.f7.length c7)) (ds := [10]) #[false, false, false, false, false, false, false, false, false, false, false, false] (by kernel_rfl) rfl rfl ⟨(blk_cell n0_.out 0).trans rfl, (blk_cell n0_.out 1).trans rfl, (blk_cell n0_.out 2).trans rfl, (blk_cell n0_.out 3).trans rfl, (blk_cell n0_.out 4).trans rfl, (blk_cell n0_.out 5).trans rfl, (blk_cell n0_.out 6).trans rfl, (blk_cell n0_.out 7).trans rfl⟩ (fun hHeld => ?_)
              refine with_tabW ev37tab ev37bits (fun HT_ HW_ => ?_)
              generalize wo.drew = w2 at n0_ n1_ n2_ n4_ hHeld ⊢
              clear BX BR HV HB
              have BX := n0_
              have BR := n1_
              have HV := n2_
              have HB := n4_
              clear n0_ n1_ n2_ n4_
              refine take_ (i := 0) (N := some 118) (v := ?_) (a' := ?_) #[true, false, false, false, false, false, false, false, false, false, false, false] rfl rfl (take_ofW HT_.out HW_.out (by kernel_rfl)) (fun _ _ _ h => h) (Or.inl ⟨by rfl, ?_⟩) hHeld ?_ ?_
              rotate_left
              · rintro w' ⟨s0, s1, s2, s3, s4, s5, s6, s7⟩
                go_simp
                with_reducible rfl
              rotate_left
              · simp only [Act.put, List.setIfInBounds_toArray, List.set_cons_zero, List.set_cons_succ, i64_w, i32_w]
                rfl
              refine pure_ (i := 1) (N := some 119) (v := ?_) (a' := ?_) #[true, true, false, false, false, false, false, false, false, false, false, false] rfl rfl (any_of HT_.out (by kernel_rfl)) (fun _ _ _ h => h) (Or.inl ⟨by rfl, ?_⟩) ?_ ?_
              rotate_left
              · intro w'
                go_simp
                with_reducible rfl
              rotate_left
              · simp only [Act.put, List.setIfInBounds_toArray, List.set_cons_zero, List.set_cons_succ, i64_w, i32_w]
                rfl
              refine pure_ (i := 2) (N := some 120) (v := ?_) (a' := ?_) #[true, true, true, false, false, false, false, false, false, false, false, false] rfl rfl (any_of HT_.out (by kernel_rfl)) (fun _ _ _ h => h) (Or.inl ⟨by rfl, ?_⟩) ?_ ?_
              rotate_left
              · intro w'
                go_simp
                with_reducible rfl
              rotate_left
              · simp only [Act.put, List.setIfInBounds_toArray, List.set_cons_zero, List.set_cons_succ, i64_w, i32_w]
                rfl
              refine pure_ (i := 3) (N := some 121) (v := ?_) (a' := ?_) #[true, true, true, true, false, false, false, false, false, false, false, false] rfl rfl (any_of HT_.out (by kernel_rfl)) (fun _ _ _ h => h) (Or.inl ⟨by rfl, ?_⟩) ?_ ?_
              rotate_left
              · intro w'
                go_simp
                with_reducible rfl
              rotate_left
              · simp only [Act.put, List.setIfInBounds_toArray, List.set_cons_zero, List.set_cons_succ, i64_w, i32_w]
                rfl
              refine pure_ (i := 4) (N := some 122) (v := ?_) (a' := ?_) #[true, true, true, true, true, false, false, false, false, false, false, false] rfl rfl (any_of HT_.out (by kernel_rfl)) (fun _ _ _ h => h) (Or.inl ⟨by rfl, ?_⟩) ?_ ?_
              rotate_left
              · intro w'
                go_simp
                with_reducible rfl
              rotate_left
              · simp only [Act.put, List.setIfInBounds_toArray, List.set_cons_zero, List.set_cons_succ, i64_w, i32_w]
                rfl
              refine pure_ (i := 5) (N := some 123) (v := ?_) (a' := ?_) #[true, true, true, true, true, true, false, false, false, false, false, false] rfl rfl (any_of HT_.out (by kernel_rfl)) (fun _ _ _ h => h) (Or.inl ⟨by rfl, ?_⟩) ?_ ?_
              rotate_left
              · intro w'
                go_simp
                with_reducible rfl
              rotate_left
              · simp only [Act.put, List.setIfInBounds_toArray, List.set_cons_zero, List.set_cons_succ, i64_w, i32_w]
                rfl
              refine pure_ (i := 6) (N := some 124) (v := undef) (a' := ?_) #[true, true, true, true, true, true, true, false, false, false, false, false] rfl rfl (any_of HT_.out (by kernel_rfl)) (fun _ _ _ h => h) (Or.inr ⟨by rfl, rfl⟩) ?_ ?_
              rotate_left
              · simp only [Act.put, List.setIfInBounds_toArray, List.set_cons_zero, List.set_cons_succ, i64_w, i32_w]
                rfl
              refine pure_ (i := 7) (N := some 125) (v := undef) (a' := ?_) #[true, true, true, true, true, true, true, true, false, false, false, false] rfl rfl (any_of HT_.out (by kernel_rfl)) (fun _ _ _ h => h) (Or.inr ⟨by rfl, rfl⟩) ?_ ?_
              rotate_left
              · simp only [Act.put, List.setIfInBounds_toArray, List.set_cons_zero, List.set_cons_succ, i64_w, i32_w]
                rfl
              refine pure_ (i := 8) (N := some 126) (v := undef) (a' := ?_) #[true, true, true, true, true, true, true, true, true, false, false, false] rfl rfl (any_of HT_.out (by kernel_rfl)) (fun _ _ _ h => h) (Or.inr ⟨by rfl, rfl⟩) ?_ ?_
              rotate_left
              · simp only [Act.put, List.setIfInBounds_toArray, List.set_cons_zero, List.set_cons_succ, i64_w, i32_w]
                rfl
              refine pure_ (i := 9) (N := some 127) (v := ?_) (a' := ?_) #[true, true, true, true, true, true, true, true, true, true, false, false] rfl rfl (any_of HT_.out (by kernel_rfl)) (fun _ _ _ h => h) (Or.inl ⟨by rfl, ?_⟩) ?_ ?_
              rotate_left
              · intro w'
                go_simp
                with_reducible rfl
              rotate_left
              · simp only [Act.put, List.setIfInBounds_toArray, List.set_cons_zero, List.set_cons_succ, i64_w, i32_w]
                rfl
              refine last_ (i := 10) (N := none) #[true, true, true, true, true, true, true, true, true, true, true, false] rfl rfl (one_of HT_.out (by kernel_rfl)) (by decide) (fun K hK => ?_)
              refine store_row_step (by rfl) ?_
              refine wp_store_row 24 (.tmp 2) (.tmp 118) rfl g2 (evC x (.slice A7 x.f7.length c7)) rfl rfl 24 _ BR.out (by kernel_rfl) rfl (by kernel_rfl) ?_
              refine hK.out _ _ ?_
              clear hK K
              refine pure_ (i := 11) (N := some 3) (v := ?_) (a' := ?_) #[true, true, true, true, true, true, true, true, true, true, true, true] rfl rfl (any_of HT_.out (by kernel_rfl)) (fun _ _ _ h => h) (Or.inl ⟨by rfl, ?_⟩) ?_ ?_
              rotate_left
              · intro w'
                go_simp
                with_reducible rfl
              rotate_left
              · simp only [Act.put, List.setIfInBounds_toArray, List.set_cons_zero, List.set_cons_succ, i64_w, i32_w]
                rfl
              refine done_ (done_of HT_.out (by kernel_rfl)) ?_
              have n0_ : Aside0 ((w2.setRow g2 (evC x (.slice A7 x.f7.length c7))).heap[g2]? = some (.cells (evC x (.slice A7 x.f7.length c7)) 24 (0, 0))) := ⟨setRow_heap _ _ _ _ _ _ BR.out⟩
              have n1_ := Aside0.mk (below_setRow HB.out GE2.out (evC x (.slice A7 x.f7.length c7)))
              have n2_ := Aside0.mk (Kd.R_mono (R_setRow HV.out BR.out (by decide) (cs' := (evC x (.slice A7 x.f7.length c7)))) (fun _ _ => trivial))
              generalize w2.setRow g2 (evC x (.slice A7 x.f7.length c7)) = wz at n0_ n1_ n2_ ⊢
              go_wp2_with (first | ((with_reducible refine body_id ?_); refine bodyPost_ret (results_ct rfl _ _ g2 24 (evC x (.slice A7 x.f7.length c7)) (0, 0) _ rfl n0_.out Tryd.underlying24 rfl (by kernel_rfl)) rfl ?_; rw [HRES.out]; exact ⟨_, rfl, n2_.out, n1_.out⟩))
end Go.Proofs.YtiapfhlipoomaaaDoor.Given
end
section
namespace Go.Proofs.YtiapfhlipoomaaaDoor.Given
open Go.RowKit Go.Proofs.YtiapfhlipoomaaaDoorW.PrintWords Go.Proofs.YtiapfhlipoomaaaDoorW.PrintLast Go.Proofs.YtiapfhlipoomaaaDoorW.PrintMore Go.Proofs.YtiapfhlipoomaaaDoor.Print
set_option linter.unusedVariables false
set_option linter.unusedSimpArgs false
def squintref18_event.f (s : ByteArray) : Option (Int × Int × Int × Int × Int × Int × Int × (List Int) × Bool) :=
  if s.size < 4294967296 then some ((evR s).1.f0, (evR s).1.f1, (evR s).1.f2, (evR s).1.f3, (evR s).1.f4, (evR s).1.f5, (evR s).1.f6, (evR s).1.f7, (evR s).2) else none
theorem squintref18_event.calls (s : ByteArray) (r1 r2 r3 r4 r5 r6 r7 : Int) (r8 : List Int) (r9 : Bool) (w : World) (h : squintref18_event.f s = some (r1, r2, r3, r4, r5, r6, r7, r8, r9)) :
    Calls Tryd.prog 38 #[.string s] w fun e w' => ∃ v0_ : Value, e = .returned (.tuple #[.agg #[.int .i64 r1, .int .i64 r2, .int .i64 r3, .int .i64 r4, .int .i64 r5, .int .i64 r6, .int .i64 r7, v0_], .bool r9]) ∧ Kd.R (Kd.int .i64) 3 w' w.heap.size (fun _ => True) v0_ r8 ∧ Below w.heap.size w w' := by
  unfold squintref18_event.f at h
  split at h
  · rename_i hh
    have he := event_any s w hh
    generalize evR s = res at h he
    obtain ⟨⟨a0, a1, a2, a3, a4, a5, a6, l⟩, b⟩ := res
    simp only [Option.some.injEq, Prod.mk.injEq] at h
    obtain ⟨rfl, rfl, rfl, rfl, rfl, rfl, rfl, rfl, rfl⟩ := h
    exact he
  · cases h
end Go.Proofs.YtiapfhlipoomaaaDoor.Given
end
section
namespace Go.Proofs.YtiapfhlipoomaaaDoor.Print
open Go.Proofs.YtiapfhlipoomaaaDoor.Given
open Go.RowKit Go.Proofs.YtiapfhlipoomaaaDoorW.PrintWords Go.Proofs.YtiapfhlipoomaaaDoorW.PrintLast Go.Proofs.YtiapfhlipoomaaaDoorW.PrintMore
attribute [local go_sem] max2_int min2_int max_two min_two max_three min_three max_four min_four
set_option linter.unusedVariables false
set_option linter.unusedSimpArgs false
def squintref18_Parse.l0 : Nat → ByteArray → List (S24) → Int → Int → Int → Option ((List (S24)) × Int × Int)
  | 0, _, _, _, _, _ => none
  | k + 1, x0, x5, x6, x7, x8 => if x8 < (x0.size : Int) then (if 0 ≤ x8 then (if (bt x0 x8) = 10 then (if 0 ≤ x7 then (if x7 ≤ x8 then (if x8 ≤ (x0.size : Int) then ((squintref18_event.f (x0.extract (x7 : Int).toNat (x8 : Int).toNat)).bind fun bt277 => (if bt277.2.2.2.2.2.2.2.2 = true then (if x5.length < 1759218604441 then (squintref18_Parse.l0 k x0 (x5 ++ [(⟨bt277.1, bt277.2.1, bt277.2.2.1, bt277.2.2.2.1, bt277.2.2.2.2.1, bt277.2.2.2.2.2.1, bt277.2.2.2.2.2.2.1, bt277.2.2.2.2.2.2.2.1⟩ : S24)]) (wrap64 (x6 + 1)) (wrap64 (x8 + 1)) (wrap64 (x8 + 1))) else (none)) else (some (([] : List (S24)), wrap64 (x6 + 1), 180)))) else (none)) else (none)) else (none)) else (squintref18_Parse.l0 k x0 x5 x6 x7 (wrap64 (x8 + 1)))) else (none)) else (if x7 < (x0.size : Int) then (some (([] : List (S24)), wrap64 (x6 + 1), 180)) else (some (x5, 0, 0)))
def squintref18_Parse.f (k : Nat) (a0 : ByteArray) : Option ((List (S24)) × Int × Int) := squintref18_Parse.l0 k a0 (([] : List (S24))) 0 0 0
set_option maxHeartbeats 8000000 in
set_option maxRecDepth 100000 in
theorem squintref18_Parse.calls (k : Nat) (a0 : ByteArray) (r1 : List (S24)) (r2 : Int) (r3 : Int) (w : World) (h : squintref18_Parse.f k a0 = some (r1, r2, r3)) :
    Calls Tryd.prog 19 #[.string a0] w fun e w' => ∃ v0_ : Value, e = .returned (.tuple #[v0_, .int .i64 r2, .int .i64 r3]) ∧ Kd.S k24 24 w' w.heap.size (fun _ => True) v0_ r1 ∧ Below w.heap.size w w' := by
  have hu24 := Tryd.underlying24
  have HB := Aside0.mk (Below.refl w.heap.size w)
  have H : (squintref18_Parse.l0 k a0 (([] : List (S24))) 0 0 0) = some (r1, r2, r3) := h
  clear h
  obtain ⟨y274, hy274⟩ : ∃ y_ : List (S24), y_ = (([] : List (S24))) := ⟨_, rfl⟩
  replace H : (squintref18_Parse.l0 k a0 y274 0 0 0) = some (r1, r2, r3) := by first | (rw [hy274]; with_reducible exact H) | (have H2_ := (Option.bind_some _ _).symm.trans H; rw [hy274]; with_reducible exact H2_) | (have H2_ := (Option.bind_some _ _).symm.trans H; with_reducible exact H2_) | with_reducible exact H | (rw [hy274]; exact H) | exact H
  have Ny274 := Aside0.mk hy274
  clear hy274
  have H' := Aside0.mk H
  clear H
  go_enter Tryd.func19, Tryd.ntmps19
  go_wp2_with (first | ((with_reducible refine gate_dst (N := 11) rfl ?_); refine Kd.S_lit k24 _ 24 ?hg (N := 11) ?hd (xs := ([] : List (S24))) (inner := []) (ok := fun _ => True) (okp := fun _ => True) ?hr ?hp (fun _ hk => hk) trivial (Below.refl _ _) (Nat.le_refl _) (by simp) ?_; (case hd => rfl); (case hg => rfl); (case hr => first | (go_simp; done) | (go_simp; rfl)); (case hp => exact (Reps.none _ _)); intro v275 w2 ho3 hb hg_ hnew_; clear hg_ hnew_; (first | rw [← Ny274.out] at ho3 | (simp only [Int.reduceToNat] at ho3; rw [← Ny274.out] at ho3)); have n0_ := Aside0.mk (Kd.S_lower ho3 (below_size (by repeat (first | (with_reducible first | exact HB.out | apply below_alloc | apply pw_below_drewN | apply below_drew1) | exact HB.out)))); have n1_ := Aside0.mk (below_step (by repeat (first | (with_reducible first | exact HB.out | apply below_alloc | apply pw_below_drewN | apply below_drew1) | exact HB.out)) hb); clear HB; have HO276 := n0_; have HB := n1_; clear n0_ n1_; clear hb ho3))
  go_loopg [5, 6, 7, 8] k (fun kq v5 v6 v7 v8 w' => ∃ (x5_1 : List (S24)) (x6_1 : Int) (x7_1 : Int) (x8_1 : Int), v6 = .int .i64 x6_1 ∧ v7 = .int .i64 x7_1 ∧ v8 = .int .i64 x8_1 ∧ Aside0 (squintref18_Parse.l0 kq a0 x5_1 x6_1 x7_1 x8_1 = some (r1, r2, r3)) ∧ Aside0 (kq ≤ k) ∧ Aside0 (Kd.S k24 24 w' w.heap.size (fun _ => True) v5 x5_1) ∧ Aside0 (Below w.heap.size w w'))
  case atStart => exact ⟨(y274), (0), (0), (0), (by first | rfl | (simp; done) | (simp [*]; done)), (by first | rfl | (simp; done) | (simp [*]; done)), (by first | rfl | (simp; done) | (simp [*]; done)), H', ⟨Nat.le_refl _⟩, ⟨by (with_reducible repeat (first | apply Kd.S_alloc | apply Kd.S_drewN | apply Kd.S_drew)); exact HO276.out⟩, ⟨by repeat (first | (with_reducible first | exact HB.out | apply below_alloc | apply pw_below_drewN | apply below_drew1) | exact HB.out)⟩⟩
  case round =>
    clear H'
    try clear c1
    try clear p2
    obtain ⟨x5_1, x6_1, x7_1, x8_1, rfl, rfl, rfl, HA, HK1, HO_5, HB⟩ := hrel
    cases gk with
    | zero => exact absurd HA.out (by simp [squintref18_Parse.l0])
    | succ k1 =>
      have H := HA.out
      clear HA
      simp only [squintref18_Parse.l0] at H
      by_cases c4 : x8_1 < (a0.size : Int)
      · rw [if_pos c4] at H
        have c4b0 : decide (x8_1 < (a0.size : Int)) = true := decide_eq_true c4
        clear c4
        by_cases c5 : 0 ≤ x8_1
        · rw [if_pos c5] at H
          have c5b0 : decide (0 ≤ x8_1) = true := decide_eq_true c5
          clear c5
          by_cases c7 : (bt a0 x8_1) = 10
          · rw [if_pos c7] at H
            have c7b0 : ((bt a0 x8_1) == 10) = true := beq_iff_eq.mpr c7
            have c7b1 : ((bt a0 x8_1) != 10) = false := bne_eq_false_iff_eq.mpr c7
            clear c7
            by_cases c8 : 0 ≤ x7_1
            · rw [if_pos c8] at H
              have c8b0 := eq_true c8
              have c8b1 : decide (0 ≤ x7_1) = true := decide_eq_true c8
              clear c8
              by_cases c9 : x7_1 ≤ x8_1
              · rw [if_pos c9] at H
                have c9b0 := eq_true c9
                have c9b1 : decide (x7_1 ≤ x8_1) = true := decide_eq_true c9
                clear c9
                by_cases c10 : x8_1 ≤ (a0.size : Int)
                · rw [if_pos c10] at H
                  have c10b0 := eq_true c10
                  have c10b1 : decide (x8_1 ≤ (a0.size : Int)) = true := decide_eq_true c10
                  clear c10
                  replace H := Option.bind_eq_some_iff.mp H
                  obtain ⟨⟨t277, t278, t279, t280, t281, t282, t283, t284, t287⟩, A110, H⟩ := H
                  replace H : (if t287 = true then (if x5_1.length < 1759218604441 then (squintref18_Parse.l0 k1 a0 (x5_1 ++ [(⟨t277, t278, t279, t280, t281, t282, t283, t284⟩ : S24)]) (wrap64 (x6_1 + 1)) (wrap64 (x8_1 + 1)) (wrap64 (x8_1 + 1))) else (none)) else (some (([] : List (S24)), wrap64 (x6_1 + 1), 180))) = some (r1, r2, r3) := H
                  have A11 := Aside0.mk A110
                  clear A110
                  by_cases c12 : t287 = true
                  · subst c12
                    have H1 : (if x5_1.length < 1759218604441 then (squintref18_Parse.l0 k1 a0 (x5_1 ++ [(⟨t277, t278, t279, t280, t281, t282, t283, t284⟩ : S24)]) (wrap64 (x6_1 + 1)) (wrap64 (x8_1 + 1)) (wrap64 (x8_1 + 1))) else (none)) = some (r1, r2, r3) := by rw [if_pos rfl] at H; exact H
                    clear H
                    have H := H1
                    clear H1
                    by_cases c13 : x5_1.length < 1759218604441
                    · rw [if_pos c13] at H
                      have LMc13 := Aside0.mk c13
                      clear c13
                      obtain ⟨y289, hy289⟩ : ∃ y_ : List (S24), y_ = (x5_1 ++ [(⟨t277, t278, t279, t280, t281, t282, t283, t284⟩ : S24)]) := ⟨_, rfl⟩
                      replace H : (squintref18_Parse.l0 k1 a0 y289 (wrap64 (x6_1 + 1)) (wrap64 (x8_1 + 1)) (wrap64 (x8_1 + 1))) = some (r1, r2, r3) := by first | (rw [hy289]; with_reducible exact H) | (have H2_ := (Option.bind_some _ _).symm.trans H; rw [hy289]; with_reducible exact H2_) | (have H2_ := (Option.bind_some _ _).symm.trans H; with_reducible exact H2_) | with_reducible exact H | (rw [hy289]; exact H) | exact H
                      have Ny289 := Aside0.mk hy289
                      clear hy289
                      have H' := Aside0.mk H
                      clear H
                      have p6 : 0 ≤ (x8_1 : Int) := of_decide_eq_true (by first | (with_reducible assumption) | assumption)
                      have q6 : x8_1 < (a0.size : Int) := of_decide_eq_true (by first | (with_reducible assumption) | assumption)
                      have hx6 := bt_at a0 x8_1
                      replace p6 := eq_true p6
                      replace q6 := eq_true q6
                      go_wp2_with (first | ((with_reducible refine gate_callee (f := 38) rfl ?_); refine goesL_ (some 29) rfl rfl Tryd.func38 (by kernel_rfl) rfl #[.string (a0.extract (x7_1 : Int).toNat (x8_1 : Int).toNat)] rfl (by (try simp only [List.map_toArray, List.map_cons, List.map_nil]); first | done | rfl | (simp only [List.length_drop, List.length_take]; rfl)) ?_; (with_reducible refine (squintref18_event.calls (a0.extract (x7_1 : Int).toNat (x8_1 : Int).toNat) t277 t278 t279 t280 t281 t282 t283 t284 true _ A11.out).mono ?_); rintro e w14 ⟨v285, rfl, ho0, hb⟩; refine ⟨_, rfl, ?_⟩; have n0_ := Aside0.mk (Kd.S_elder' (by (with_reducible repeat (first | apply Kd.S_alloc | apply Kd.S_drewN | apply Kd.S_drew)); exact HO_5.out) (Kd.R_base ho0) hb); have n1_ := Aside0.mk (Kd.R_lower ho0 (below_size (by repeat (first | (with_reducible first | exact HB.out | apply below_alloc | apply pw_below_drewN | apply below_drew1) | exact HB.out)))); have n2_ := Aside0.mk (below_step (by repeat (first | (with_reducible first | exact HB.out | apply below_alloc | apply pw_below_drewN | apply below_drew1) | exact HB.out)) hb); clear HO_5; clear HB; have HO_5 := n0_; have HO286 := n1_; have HB := n2_; clear n0_ n1_ n2_; (try clear hb); (try clear hb2); (try clear hk); (try clear hi); (try clear ho0)) | ((with_reducible refine gate_dst (N := 9) rfl ?_); refine box_event ?hg (N := 9) ?hd (cs := #[.int .i64 0, .int .i64 0, .int .i64 0, .int .i64 0, .int .i64 0, .int .i64 0, .int .i64 0, .slice none 0 0]) (t := 24) ?hr ?_; (case hd => rfl); (case hg => rfl); (case hr => first | (go_simp; done) | (go_simp; rfl)); intro gb288 hg w15 hbox hb; have n0_ := Aside0.mk (Kd.S_below (Kd.S_elderB (by (with_reducible repeat (first | apply Kd.S_alloc | apply Kd.S_drewN | apply Kd.S_drew)); exact HO_5.out) gb288 (Nat.le_of_eq hg.symm)) hb); have n1_ := Aside0.mk (Kd.R_below (by (with_reducible repeat (first | apply Kd.R_alloc | apply Kd.R_drewN | apply Kd.R_drew)); exact HO286.out) hb); have n2_ := Aside0.mk (below_step (by repeat (first | (with_reducible first | exact HB.out | apply below_alloc | apply pw_below_drewN | apply below_drew1) | exact HB.out)) hb); have n3_ := Aside0.mk (hbox); have n4_ := Aside0.mk ((by rw [hg]; exact (below_size (by repeat (first | (with_reducible first | exact HB.out | apply below_alloc | apply pw_below_drewN | apply below_drew1) | exact HB.out))) : w.heap.size ≤ gb288)); have n5_ := Aside0.mk ((by rw [hg]; exact (below_size (by repeat (first | (with_reducible first | exact HB.out | apply below_alloc | apply pw_below_drewN | apply below_drew1) | exact HB.out))) : w.heap.size ≤ gb288)); clear HO_5; clear HO286; clear HB; have HO_5 := n0_; have HO286 := n1_; have HB := n2_; have BK288 := n3_; have GW288 := n4_; have GE288 := n5_; clear n0_ n1_ n2_ n3_ n4_ n5_; clear hb hbox hg; have hcz16_0 : w15.cell? ⟨gb288, 0, none⟩ = some (.int .i64 0) := (blk_cell BK288.out 0).trans rfl; have hcz16_1 : w15.cell? ⟨gb288, 1, none⟩ = some (.int .i64 0) := (blk_cell BK288.out 1).trans rfl; have hcz16_2 : w15.cell? ⟨gb288, 2, none⟩ = some (.int .i64 0) := (blk_cell BK288.out 2).trans rfl; have hcz16_3 : w15.cell? ⟨gb288, 3, none⟩ = some (.int .i64 0) := (blk_cell BK288.out 3).trans rfl; have hcz16_4 : w15.cell? ⟨gb288, 4, none⟩ = some (.int .i64 0) := (blk_cell BK288.out 4).trans rfl; have hcz16_5 : w15.cell? ⟨gb288, 5, none⟩ = some (.int .i64 0) := (blk_cell BK288.out 5).trans rfl; have hcz16_6 : w15.cell? ⟨gb288, 6, none⟩ = some (.int .i64 0) := (blk_cell BK288.out 6).trans rfl; have hcz16_7 : w15.cell? ⟨gb288, 7, none⟩ = some (.slice none 0 0) := (blk_cell BK288.out 7).trans rfl; have hfz16_0 := blk_frozen BK288.out 0; have hfz16_1 := blk_frozen BK288.out 1; have hfz16_2 := blk_frozen BK288.out 2; have hfz16_3 := blk_frozen BK288.out 3; have hfz16_4 := blk_frozen BK288.out 4; have hfz16_5 := blk_frozen BK288.out 5; have hfz16_6 := blk_frozen BK288.out 6; have hfz16_7 := blk_frozen BK288.out 7; obtain ⟨Ao17, co17, eo17⟩ := Kd.R_slice HO286.out; subst eo17) | ((with_reducible refine gate_store (t := 24) (p := 9) rfl ?_); refine store_event (t := 24) (p := 9) (v := ?vo_w18) (w1 := ((((((((w15.setCell ⟨gb288, 0, none⟩ (.int .i64 t277)).setCell ⟨gb288, 1, none⟩ (.int .i64 t278)).setCell ⟨gb288, 2, none⟩ (.int .i64 t279)).setCell ⟨gb288, 3, none⟩ (.int .i64 t280)).setCell ⟨gb288, 4, none⟩ (.int .i64 t281)).setCell ⟨gb288, 5, none⟩ (.int .i64 t282)).setCell ⟨gb288, 6, none⟩ (.int .i64 t283)).setCell ⟨gb288, 7, none⟩ (.slice Ao17 t284.length co17))) ?hg ?ho ?hn ?hr ?_; (case ho => rfl); (case hg => rfl); (case hn => rfl); (case hr => first | (go_simp; done) | (go_simp; rfl)); intro w18 hw; have n0_ : Aside0 (Kd.S k24 24 w18 w.heap.size (fun k_ => some k_ ≠ (.slice Ao17 t284.length co17 : Value).ownBlock ∧ k_ ≠ gb288) u5 x5_1) := ⟨(by rw [hw]; exact (by (with_reducible repeat (first | apply Kd.S_alloc | apply Kd.S_drewN | apply Kd.S_drew)); exact Kd.S_mono (Kd.S_far (p := ⟨gb288, 7, none⟩) (Kd.S_far (p := ⟨gb288, 6, none⟩) (Kd.S_far (p := ⟨gb288, 5, none⟩) (Kd.S_far (p := ⟨gb288, 4, none⟩) (Kd.S_far (p := ⟨gb288, 3, none⟩) (Kd.S_far (p := ⟨gb288, 2, none⟩) (Kd.S_far (p := ⟨gb288, 1, none⟩) (Kd.S_far (p := ⟨gb288, 0, none⟩) (Kd.S_mono HO_5.out (fun k_ hk => (⟨hk, hk.2⟩ : _ ∧ k_ ≠ gb288))) (fun _ hk => hk.2) (.int .i64 t277)) (fun _ hk => hk.2) (.int .i64 t278)) (fun _ hk => hk.2) (.int .i64 t279)) (fun _ hk => hk.2) (.int .i64 t280)) (fun _ hk => hk.2) (.int .i64 t281)) (fun _ hk => hk.2) (.int .i64 t282)) (fun _ hk => hk.2) (.int .i64 t283)) (fun _ hk => hk.2) (.slice Ao17 t284.length co17)) (fun _ hk => ⟨hk.1.1.2, hk.1.2⟩)))⟩; have n1_ : Aside0 (Kd.R (Kd.int .i64) 3 w18 w.heap.size (fun _ => True) (.slice Ao17 t284.length co17) t284) := ⟨(by rw [hw]; exact (by (with_reducible repeat (first | apply Kd.R_alloc | apply Kd.R_drewN | apply Kd.R_drew)); exact Kd.R_mono (Kd.R_far (p := ⟨gb288, 7, none⟩) (Kd.R_far (p := ⟨gb288, 6, none⟩) (Kd.R_far (p := ⟨gb288, 5, none⟩) (Kd.R_far (p := ⟨gb288, 4, none⟩) (Kd.R_far (p := ⟨gb288, 3, none⟩) (Kd.R_far (p := ⟨gb288, 2, none⟩) (Kd.R_far (p := ⟨gb288, 1, none⟩) (Kd.R_far (p := ⟨gb288, 0, none⟩) (Kd.R_types HO286.out BK288.out (by decide)) (fun _ hk => hk.2) (.int .i64 t277)) (fun _ hk => hk.2) (.int .i64 t278)) (fun _ hk => hk.2) (.int .i64 t279)) (fun _ hk => hk.2) (.int .i64 t280)) (fun _ hk => hk.2) (.int .i64 t281)) (fun _ hk => hk.2) (.int .i64 t282)) (fun _ hk => hk.2) (.int .i64 t283)) (fun _ hk => hk.2) (.slice Ao17 t284.length co17)) (fun _ hk => trivial)))⟩; have n2_ : Aside0 (w18.heap[gb288]? = some (.cells #[.int .i64 t277, .int .i64 t278, .int .i64 t279, .int .i64 t280, .int .i64 t281, .int .i64 t282, .int .i64 t283, .slice Ao17 t284.length co17] 24 (0, 0))) := ⟨(by rw [hw]; exact (by (with_reducible repeat (first | refine blk_drewN ?_ _ | refine blk_drew ?_ | refine blk_alloc ?_ _)); refine blk_put (cs := #[.int .i64 t277, .int .i64 t278, .int .i64 t279, .int .i64 t280, .int .i64 t281, .int .i64 t282, .int .i64 t283, .slice none 0 0]) ?_ 7 _ rfl; (with_reducible repeat (first | refine blk_drewN ?_ _ | refine blk_drew ?_ | refine blk_alloc ?_ _)); refine blk_put (cs := #[.int .i64 t277, .int .i64 t278, .int .i64 t279, .int .i64 t280, .int .i64 t281, .int .i64 t282, .int .i64 0, .slice none 0 0]) ?_ 6 _ rfl; (with_reducible repeat (first | refine blk_drewN ?_ _ | refine blk_drew ?_ | refine blk_alloc ?_ _)); refine blk_put (cs := #[.int .i64 t277, .int .i64 t278, .int .i64 t279, .int .i64 t280, .int .i64 t281, .int .i64 0, .int .i64 0, .slice none 0 0]) ?_ 5 _ rfl; (with_reducible repeat (first | refine blk_drewN ?_ _ | refine blk_drew ?_ | refine blk_alloc ?_ _)); refine blk_put (cs := #[.int .i64 t277, .int .i64 t278, .int .i64 t279, .int .i64 t280, .int .i64 0, .int .i64 0, .int .i64 0, .slice none 0 0]) ?_ 4 _ rfl; (with_reducible repeat (first | refine blk_drewN ?_ _ | refine blk_drew ?_ | refine blk_alloc ?_ _)); refine blk_put (cs := #[.int .i64 t277, .int .i64 t278, .int .i64 t279, .int .i64 0, .int .i64 0, .int .i64 0, .int .i64 0, .slice none 0 0]) ?_ 3 _ rfl; (with_reducible repeat (first | refine blk_drewN ?_ _ | refine blk_drew ?_ | refine blk_alloc ?_ _)); refine blk_put (cs := #[.int .i64 t277, .int .i64 t278, .int .i64 0, .int .i64 0, .int .i64 0, .int .i64 0, .int .i64 0, .slice none 0 0]) ?_ 2 _ rfl; (with_reducible repeat (first | refine blk_drewN ?_ _ | refine blk_drew ?_ | refine blk_alloc ?_ _)); refine blk_put (cs := #[.int .i64 t277, .int .i64 0, .int .i64 0, .int .i64 0, .int .i64 0, .int .i64 0, .int .i64 0, .slice none 0 0]) ?_ 1 _ rfl; (with_reducible repeat (first | refine blk_drewN ?_ _ | refine blk_drew ?_ | refine blk_alloc ?_ _)); refine blk_put (cs := #[.int .i64 0, .int .i64 0, .int .i64 0, .int .i64 0, .int .i64 0, .int .i64 0, .int .i64 0, .slice none 0 0]) ?_ 0 _ rfl; (with_reducible repeat (first | refine blk_drewN ?_ _ | refine blk_drew ?_ | refine blk_alloc ?_ _)); exact BK288.out))⟩; have n3_ : Aside0 (Below w.heap.size w w18) := ⟨(by rw [hw]; exact (by repeat (first | (with_reducible first | exact HB.out | apply below_alloc | apply pw_below_drewN | apply below_drew1 | refine below_set ?_ GE288.out) | exact HB.out)))⟩; clear hw; clear HO_5; clear HO286; clear BK288; clear HB; have HO_5 := n0_; have HO286 := n1_; have BK288 := n2_; have HB := n3_; clear n0_ n1_ n2_ n3_; have hcz19_0 : w18.cell? ⟨gb288, 0, none⟩ = some (.int .i64 t277) := (blk_cell BK288.out 0).trans rfl; have hcz19_1 : w18.cell? ⟨gb288, 1, none⟩ = some (.int .i64 t278) := (blk_cell BK288.out 1).trans rfl; have hcz19_2 : w18.cell? ⟨gb288, 2, none⟩ = some (.int .i64 t279) := (blk_cell BK288.out 2).trans rfl; have hcz19_3 : w18.cell? ⟨gb288, 3, none⟩ = some (.int .i64 t280) := (blk_cell BK288.out 3).trans rfl; have hcz19_4 : w18.cell? ⟨gb288, 4, none⟩ = some (.int .i64 t281) := (blk_cell BK288.out 4).trans rfl; have hcz19_5 : w18.cell? ⟨gb288, 5, none⟩ = some (.int .i64 t282) := (blk_cell BK288.out 5).trans rfl; have hcz19_6 : w18.cell? ⟨gb288, 6, none⟩ = some (.int .i64 t283) := (blk_cell BK288.out 6).trans rfl; have hcz19_7 : w18.cell? ⟨gb288, 7, none⟩ = some (.slice Ao17 t284.length co17) := (blk_cell BK288.out 7).trans rfl; have hfz19_0 := blk_frozen BK288.out 0; have hfz19_1 := blk_frozen BK288.out 1; have hfz19_2 := blk_frozen BK288.out 2; have hfz19_3 := blk_frozen BK288.out 3; have hfz19_4 := blk_frozen BK288.out 4; have hfz19_5 := blk_frozen BK288.out 5; have hfz19_6 := blk_frozen BK288.out 6; have hfz19_7 := blk_frozen BK288.out 7) | ((with_reducible refine gate_builtin (b := .append) (xs := #[.tmp 35, .tmp 37]) rfl ?_); at_builtin; refine Kd.S_append k24 (w0 := w) w.heap.size rfl (.tmp 35) (.tmp 37) 29 24 (.agg #[(.int .i64 0), (.int .i64 0), (.int .i64 0), (.int .i64 0), (.int .i64 0), (.int .i64 0), (.int .i64 0), (.slice none 0 0)]) 80 rfl Tryd.underlying29 info24 rfl (by decide) (by omega) u5 x5_1 (⟨t277, t278, t279, t280, t281, t282, t283, t284⟩ : S24) [.int .i64 t277, .int .i64 t278, .int .i64 t279, .int .i64 t280, .int .i64 t281, .int .i64 t282, .int .i64 t283, .slice Ao17 t284.length co17] (fun k_ => k_ ≠ gb288) (fun k_ => some k_ = (.slice Ao17 t284.length co17 : Value).ownBlock) rfl rfl ?aP (fun k_ hk_ => ((Kd.R_mono (ok' := fun k_ => ((fun k_ => k_ ≠ gb288)) k_ ∧ some k_ ≠ (u5 : Value).ownBlock) (Kd.R_types (Kd.R_apart' (HO286.out) (Kd.S_typed HO_5.out) (by decide)) BK288.out (by decide)) (fun k_ hk => ⟨hk.2, hk.1.2⟩))).1 k_ hk_.symm) ?aF ?aO ?aB ?aS ?aL ?_; (case aP => exact k24_mkM _ _ _ (⟨t277, t278, t279, t280, t281, t282, t283, t284⟩ : S24) (Kd.R_mono (Kd.R_tight rfl (Kd.R_mono (ok' := fun k_ => ((fun k_ => k_ ≠ gb288)) k_ ∧ some k_ ≠ (u5 : Value).ownBlock) (Kd.R_types (Kd.R_apart' (HO286.out) (Kd.S_typed HO_5.out) (by decide)) BK288.out (by decide)) (fun k_ hk => ⟨hk.2, hk.1.2⟩))) (fun _ h_ => h_))); (case aB => exact (by repeat (first | (with_reducible first | exact HB.out | apply below_alloc | apply pw_below_drewN | apply below_drew1 | refine below_set ?_ GE288.out) | exact HB.out))); (case aF => exact (fun k_ hk => Kd.freshB (g := gb288) (o := .cells #[.int .i64 t277, .int .i64 t278, .int .i64 t279, .int .i64 t280, .int .i64 t281, .int .i64 t282, .int .i64 t283, .slice Ao17 t284.length co17] 24 (0, 0)) (by (with_reducible repeat (first | refine blk_drewN ?_ _ | refine blk_drew ?_ | refine blk_alloc ?_ _)); exact BK288.out) k_ hk)); (case aO => exact (by (with_reducible repeat (first | apply Kd.S_alloc | apply Kd.S_drewN | apply Kd.S_drew)); exact Kd.S_mono HO_5.out (fun k_ hk => ⟨hk.2, fun e_ => hk.1 e_⟩))); (case aS => exact (below_size (by repeat (first | (with_reducible first | exact HB.out | apply below_alloc | apply pw_below_drewN | apply below_drew1 | refine below_set ?_ GE288.out) | exact HB.out)))); (case aL => have := LMc13.out; omega); intro v290 w20 ho hb hg hat; rw [← Ny289.out] at ho; have n0_ := Aside0.mk (blk_grown (g := gb288) (o := .cells #[.int .i64 t277, .int .i64 t278, .int .i64 t279, .int .i64 t280, .int .i64 t281, .int .i64 t282, .int .i64 t283, .slice Ao17 t284.length co17] 24 (0, 0)) (by (with_reducible repeat (first | refine blk_drewN ?_ _ | refine blk_drew ?_ | refine blk_alloc ?_ _)); exact BK288.out) hg (Kd.S_away HO_5.out (fun _ hk => hk.2))); have n1_ := Aside0.mk (hb); have n2_ := Aside0.mk (ho); clear BK288; clear HB; clear HO_5; clear HO286; have BK288 := n0_; have HB := n1_; have HO291 := n2_; clear n0_ n1_ n2_; clear ho hb hg hat))
                      go_roundg k1
                      case measure => have := HK1.out; omega
                      case rel => exact ⟨(y289), (wrap64 (x6_1 + 1)), (wrap64 (x8_1 + 1)), (wrap64 (x8_1 + 1)), (by first | rfl | (simp; done) | (simp [*]; done)), (by first | rfl | (simp; done) | (simp [*]; done)), (by first | rfl | (simp; done) | (simp [*]; done)), H', ⟨by have := HK1.out; omega⟩, ⟨by (with_reducible repeat (first | apply Kd.S_alloc | apply Kd.S_drewN | apply Kd.S_drew)); exact Kd.S_mono HO291.out (fun _ hk => trivial)⟩, ⟨by repeat (first | (with_reducible first | exact HB.out | apply below_alloc | apply pw_below_drewN | apply below_drew1 | refine below_set ?_ GE288.out) | exact HB.out)⟩⟩
                    · rw [if_neg c13] at H
                      exact absurd H (by simp)
                  · replace c12 := Bool.eq_false_iff.mpr c12
                    subst c12
                    have H1 : (some (([] : List (S24)), wrap64 (x6_1 + 1), 180)) = some (r1, r2, r3) := by rw [if_neg (show ¬ (false = true) by decide)] at H; exact H
                    clear H
                    have H := H1
                    clear H1
                    simp only [Option.some.injEq, Prod.mk.injEq] at H
                    obtain ⟨rfl, rfl, rfl⟩ := H
                    have p6 : 0 ≤ (x8_1 : Int) := of_decide_eq_true (by first | (with_reducible assumption) | assumption)
                    have q6 : x8_1 < (a0.size : Int) := of_decide_eq_true (by first | (with_reducible assumption) | assumption)
                    have hx6 := bt_at a0 x8_1
                    replace p6 := eq_true p6
                    replace q6 := eq_true q6
                    go_wp2_with (first | ((with_reducible refine gate_callee (f := 38) rfl ?_); refine goesL_ (some 29) rfl rfl Tryd.func38 (by kernel_rfl) rfl #[.string (a0.extract (x7_1 : Int).toNat (x8_1 : Int).toNat)] rfl (by (try simp only [List.map_toArray, List.map_cons, List.map_nil]); first | done | rfl | (simp only [List.length_drop, List.length_take]; rfl)) ?_; (with_reducible refine (squintref18_event.calls (a0.extract (x7_1 : Int).toNat (x8_1 : Int).toNat) t277 t278 t279 t280 t281 t282 t283 t284 false _ A11.out).mono ?_); rintro e w21 ⟨v285, rfl, ho0, hb⟩; refine ⟨_, rfl, ?_⟩; have n0_ := Aside0.mk (Kd.S_elder' (by (with_reducible repeat (first | apply Kd.S_alloc | apply Kd.S_drewN | apply Kd.S_drew)); exact HO_5.out) (Kd.R_base ho0) hb); have n1_ := Aside0.mk (Kd.R_lower ho0 (below_size (by repeat (first | (with_reducible first | exact HB.out | apply below_alloc | apply pw_below_drewN | apply below_drew1) | exact HB.out)))); have n2_ := Aside0.mk (below_step (by repeat (first | (with_reducible first | exact HB.out | apply below_alloc | apply pw_below_drewN | apply below_drew1) | exact HB.out)) hb); clear HO_5; clear HB; have HO_5 := n0_; have HO286 := n1_; have HB := n2_; clear n0_ n1_ n2_; (try clear hb); (try clear hb2); (try clear hk); (try clear hi); (try clear ho0)) | ((with_reducible refine gate_dst (N := 9) rfl ?_); refine box_event ?hg (N := 9) ?hd (cs := #[.int .i64 0, .int .i64 0, .int .i64 0, .int .i64 0, .int .i64 0, .int .i64 0, .int .i64 0, .slice none 0 0]) (t := 24) ?hr ?_; (case hd => rfl); (case hg => rfl); (case hr => first | (go_simp; done) | (go_simp; rfl)); intro gb288 hg w22 hbox hb; have n0_ := Aside0.mk (Kd.S_below (Kd.S_elderB (by (with_reducible repeat (first | apply Kd.S_alloc | apply Kd.S_drewN | apply Kd.S_drew)); exact HO_5.out) gb288 (Nat.le_of_eq hg.symm)) hb); have n1_ := Aside0.mk (Kd.R_below (by (with_reducible repeat (first | apply Kd.R_alloc | apply Kd.R_drewN | apply Kd.R_drew)); exact HO286.out) hb); have n2_ := Aside0.mk (below_step (by repeat (first | (with_reducible first | exact HB.out | apply below_alloc | apply pw_below_drewN | apply below_drew1) | exact HB.out)) hb); have n3_ := Aside0.mk (hbox); have n4_ := Aside0.mk ((by rw [hg]; exact (below_size (by repeat (first | (with_reducible first | exact HB.out | apply below_alloc | apply pw_below_drewN | apply below_drew1) | exact HB.out))) : w.heap.size ≤ gb288)); have n5_ := Aside0.mk ((by rw [hg]; exact (below_size (by repeat (first | (with_reducible first | exact HB.out | apply below_alloc | apply pw_below_drewN | apply below_drew1) | exact HB.out))) : w.heap.size ≤ gb288)); clear HO_5; clear HO286; clear HB; have HO_5 := n0_; have HO286 := n1_; have HB := n2_; have BK288 := n3_; have GW288 := n4_; have GE288 := n5_; clear n0_ n1_ n2_ n3_ n4_ n5_; clear hb hbox hg; have hcz23_0 : w22.cell? ⟨gb288, 0, none⟩ = some (.int .i64 0) := (blk_cell BK288.out 0).trans rfl; have hcz23_1 : w22.cell? ⟨gb288, 1, none⟩ = some (.int .i64 0) := (blk_cell BK288.out 1).trans rfl; have hcz23_2 : w22.cell? ⟨gb288, 2, none⟩ = some (.int .i64 0) := (blk_cell BK288.out 2).trans rfl; have hcz23_3 : w22.cell? ⟨gb288, 3, none⟩ = some (.int .i64 0) := (blk_cell BK288.out 3).trans rfl; have hcz23_4 : w22.cell? ⟨gb288, 4, none⟩ = some (.int .i64 0) := (blk_cell BK288.out 4).trans rfl; have hcz23_5 : w22.cell? ⟨gb288, 5, none⟩ = some (.int .i64 0) := (blk_cell BK288.out 5).trans rfl; have hcz23_6 : w22.cell? ⟨gb288, 6, none⟩ = some (.int .i64 0) := (blk_cell BK288.out 6).trans rfl; have hcz23_7 : w22.cell? ⟨gb288, 7, none⟩ = some (.slice none 0 0) := (blk_cell BK288.out 7).trans rfl; have hfz23_0 := blk_frozen BK288.out 0; have hfz23_1 := blk_frozen BK288.out 1; have hfz23_2 := blk_frozen BK288.out 2; have hfz23_3 := blk_frozen BK288.out 3; have hfz23_4 := blk_frozen BK288.out 4; have hfz23_5 := blk_frozen BK288.out 5; have hfz23_6 := blk_frozen BK288.out 6; have hfz23_7 := blk_frozen BK288.out 7; obtain ⟨Ao24, co24, eo24⟩ := Kd.R_slice HO286.out; subst eo24))
                    go_ret3
                    exact ⟨_, by first | rfl | (simp [errW_none, errW_some] <;> rfl) | (simp [*, errW_none, errW_some] <;> rfl), by first | exact Kd.S_nil _ _ _ _ _ | exact Kd.N_nil _ _ _ _ _ | exact Kd.V_nil _ _ _ _ _ | exact Kd.Q_nil _ _ _ _ _ | exact Kd.R_nil _ _ _ _ _, by repeat (first | (with_reducible first | exact HB.out | apply below_alloc | apply pw_below_drewN | apply below_drew1 | refine below_set ?_ GE288.out) | exact HB.out)⟩
                · rw [if_neg c10] at H
                  exact absurd H (by simp)
              · rw [if_neg c9] at H
                exact absurd H (by simp)
            · rw [if_neg c8] at H
              exact absurd H (by simp)
          · rw [if_neg c7] at H
            have c7b0 : ((bt a0 x8_1) == 10) = false := beq_eq_false_iff_ne.mpr c7
            have c7b1 : ((bt a0 x8_1) != 10) = true := bne_iff_ne.mpr c7
            have H' := Aside0.mk H
            clear H
            have p6 : 0 ≤ (x8_1 : Int) := of_decide_eq_true (by first | (with_reducible assumption) | assumption)
            have q6 : x8_1 < (a0.size : Int) := of_decide_eq_true (by first | (with_reducible assumption) | assumption)
            have hx6 := bt_at a0 x8_1
            replace p6 := eq_true p6
            replace q6 := eq_true q6
            go_wp2
            go_roundg k1
            case measure => have := HK1.out; omega
            case rel => exact ⟨(x5_1), (x6_1), (x7_1), (wrap64 (x8_1 + 1)), (by first | rfl | (simp; done) | (simp [*]; done)), (by first | rfl | (simp; done) | (simp [*]; done)), (by first | rfl | (simp; done) | (simp [*]; done)), H', ⟨by have := HK1.out; omega⟩, ⟨by (with_reducible repeat (first | apply Kd.S_alloc | apply Kd.S_drewN | apply Kd.S_drew)); exact HO_5.out⟩, ⟨by repeat (first | (with_reducible first | exact HB.out | apply below_alloc | apply pw_below_drewN | apply below_drew1) | exact HB.out)⟩⟩
        · rw [if_neg c5] at H
          exact absurd H (by simp)
      · rw [if_neg c4] at H
        have c4b0 : decide (x8_1 < (a0.size : Int)) = false := decide_eq_false c4
        clear c4
        by_cases c25 : x7_1 < (a0.size : Int)
        · rw [if_pos c25] at H
          have c25b0 : decide (x7_1 < (a0.size : Int)) = true := decide_eq_true c25
          clear c25
          simp only [Option.some.injEq, Prod.mk.injEq] at H
          obtain ⟨rfl, rfl, rfl⟩ := H
          go_wp2
          go_ret3
          exact ⟨_, by first | rfl | (simp [errW_none, errW_some] <;> rfl) | (simp [*, errW_none, errW_some] <;> rfl), by first | exact Kd.S_nil _ _ _ _ _ | exact Kd.N_nil _ _ _ _ _ | exact Kd.V_nil _ _ _ _ _ | exact Kd.Q_nil _ _ _ _ _ | exact Kd.R_nil _ _ _ _ _, by repeat (first | (with_reducible first | exact HB.out | apply below_alloc | apply pw_below_drewN | apply below_drew1) | exact HB.out)⟩
        · rw [if_neg c25] at H
          have c25b0 : decide (x7_1 < (a0.size : Int)) = false := decide_eq_false c25
          clear c25
          simp only [Option.some.injEq, Prod.mk.injEq] at H
          obtain ⟨rfl, rfl, rfl⟩ := H
          go_wp2
          go_ret3
          exact ⟨_, by first | rfl | (simp [errW_none, errW_some] <;> rfl) | (simp [*, errW_none, errW_some] <;> rfl), by (with_reducible repeat (first | apply Kd.S_alloc | apply Kd.S_drewN | apply Kd.S_drew)); exact HO_5.out, by repeat (first | (with_reducible first | exact HB.out | apply below_alloc | apply pw_below_drewN | apply below_drew1) | exact HB.out)⟩
end Go.Proofs.YtiapfhlipoomaaaDoor.Print
end
section
namespace Go.Proofs.YtiapfhlipoomaaaDoor.Given
open Go.RowKit Go.Proofs.YtiapfhlipoomaaaDoorW.PrintWords Go.Proofs.YtiapfhlipoomaaaDoorW.PrintLast Go.Proofs.YtiapfhlipoomaaaDoorW.PrintMore Go.Proofs.YtiapfhlipoomaaaDoor.Print
set_option linter.unusedVariables false
set_option linter.unusedSimpArgs false
theorem decode_cont (s : ByteArray) (pos : Nat) : ∀ i, 1 ≤ i → i < (Utf8.decode s pos).2 → pos + i < s.size ∧ (s.get! (pos + i)).toNat / 64 = 2 := by
  intro i h1 h2
  simp only [Utf8.decode] at h2
  repeat' split at h2
  all_goals first
    | (exfalso; simp only at h2; omega)
    | skip
  all_goals simp only [Bool.and_eq_true, decide_eq_true_eq, beq_iff_eq] at *
  · obtain rfl : i = 1 := by omega
    exact ⟨by omega, by omega⟩
  · obtain rfl | rfl : i = 1 ∨ i = 2 := by omega
    · exact ⟨by omega, by omega⟩
    · exact ⟨by omega, by omega⟩
  · obtain rfl | rfl | rfl : i = 1 ∨ i = 2 ∨ i = 3 := by omega
    · exact ⟨by omega, by omega⟩
    · exact ⟨by omega, by omega⟩
    · exact ⟨by omega, by omega⟩
theorem get_bang (s : ByteArray) (p : Nat) (h : p < s.size) : s.get! p = s[p]'h := by
  simp [ByteArray.get!, getElem!_pos, h]
  rfl
theorem bt_got (s : ByteArray) (p : Nat) (h : p < s.size) : bt s (p : Int) = ((s.get! p).toNat : Int) := by
  rw [get_bang s p h]
  unfold bt
  simp only [Int.toNat_natCast]
  rw [dif_pos h]
theorem ref_skip (s : ByteArray) (out : List S24) (n fr : Int) (hs : s.size < 4294967281) : ∀ (d k pos : Nat), pos + d ≤ s.size → (∀ i, i < d → bt s ((pos + i : Nat) : Int) ≠ 10) →
    squintref18_Parse.l0 (k + d) s out n fr (pos : Int) = squintref18_Parse.l0 k s out n fr ((pos + d : Nat) : Int)
  | 0, k, pos, _, _ => rfl
  | d + 1, k, pos, h, hb => by
    have h0 := hb 0 (by omega)
    rw [Nat.add_zero] at h0
    show squintref18_Parse.l0 (k + d + 1) s out n fr (pos : Int) = _
    rw [squintref18_Parse.l0, if_pos (by omega), if_pos (by omega), if_neg h0, show wrap64 ((pos : Int) + 1) = ((pos + 1 : Nat) : Int) by simp only [wrap64]; omega,
      ref_skip s out n fr hs d k (pos + 1) (by omega) (fun i hi => by have := hb (i + 1) (by omega); rwa [show pos + (i + 1) = pos + 1 + i by omega] at this), show pos + 1 + d = pos + (d + 1) by omega]
theorem ref_run (s : ByteArray) (hs : s.size < 4294967281) : ∀ (m pos fr : Nat) (out : List S24), fr ≤ pos → pos ≤ s.size → out.length ≤ pos → s.size + 1 ≤ pos + m → ∀ k, s.size + 1 ≤ pos + k →
    squintref18_Parse.l0 k s out (out.length : Int) (fr : Int) (pos : Int) = some ((parseRun s m pos fr out).1, ((parseRun s m pos fr out).2.1 : Int), (parseRun s m pos fr out).2.2)
  | 0, pos, fr, out, _, hp, _, hm, _, _ => by omega
  | m + 1, pos, fr, out, hf, hp, ho, hm, 0, hk => by omega
  | m + 1, pos, fr, out, hf, hp, ho, hm, k + 1, hk => by
    by_cases hlt : pos < s.size
    · have hwd := width_pos s pos hlt
      have hc := decode_cont s pos
      by_cases h10 : (Utf8.decode s pos).1 = 10
      · have hasc : (s[pos]'hlt).toNat < 128 := by
          by_cases ha : (s[pos]'hlt).toNat < 128
          · exact ha
          · have := (decode_high s pos hlt (by omega)).1
            omega
        have hd := decode_ascii s pos hlt hasc
        have hb : bt s (pos : Int) = 10 := by
          rw [bt_got s pos hlt, get_bang s pos hlt]
          rw [hd] at h10
          simp only at h10
          rw [h10]
          rfl
        have hex : (s.extract ((fr : Int)).toNat ((pos : Int)).toNat) = s.extract fr pos := by rw [Int.toNat_natCast, Int.toNat_natCast]
        have hsz := extract_size s fr pos
        have hol : out.length < 1759218604441 := Nat.lt_of_le_of_lt ho (Nat.lt_of_le_of_lt hp (Nat.lt_trans hs (by decide)))
        rw [squintref18_Parse.l0, if_pos (by omega), if_pos (by omega), if_pos hb, if_pos (by omega), if_pos (by omega), if_pos (by omega), hex, squintref18_event.f, if_pos (by omega), Option.bind_some]
        rw [parseRun, if_pos hlt, if_pos h10, one_ref]
        have hw1 : wrap64 ((out.length : Int) + 1) = ((out.length + 1 : Nat) : Int) := by simp only [wrap64]; omega
        by_cases hok : (evR (s.extract fr pos)).2 = true
        · have hrec := ref_run s hs m (pos + 1) (pos + 1) (out ++ [(evR (s.extract fr pos)).1]) (by omega) (by omega) (by rw [List.length_append]; simp; omega) (by omega) k (by omega)
          rw [if_pos hok, if_pos hok, if_pos hol, hw1, show wrap64 ((pos : Int) + 1) = ((pos + 1 : Nat) : Int) by simp only [wrap64]; omega, hd]
          rw [List.length_append] at hrec
          exact hrec
        · rw [if_neg hok, if_neg hok, hw1]
      · have hle : pos + (Utf8.decode s pos).2 ≤ s.size := by
          by_cases h1 : (Utf8.decode s pos).2 = 1
          · omega
          · have := (hc ((Utf8.decode s pos).2 - 1) (by omega) (by omega)).1
            omega
        have hsk := ref_skip s out (out.length : Int) (fr : Int) hs (Utf8.decode s pos).2 (k + 1 - (Utf8.decode s pos).2) pos hle (fun i hi => by
          by_cases h0 : i = 0
          · subst h0
            rw [Nat.add_zero]
            intro hb
            rw [bt_got s pos hlt, get_bang s pos hlt] at hb
            have hb' : (s[pos]'hlt).toNat = 10 := by omega
            rw [decode_ascii s pos hlt (by omega)] at h10
            exact h10 hb'
          · obtain ⟨h1, h2⟩ := hc i (by omega) hi
            rw [bt_got s (pos + i) h1]
            intro hb
            omega)
        rw [show k + 1 - (Utf8.decode s pos).2 + (Utf8.decode s pos).2 = k + 1 by omega] at hsk
        rw [hsk, parseRun, if_pos hlt, if_neg h10]
        exact ref_run s hs m (pos + (Utf8.decode s pos).2) fr out (by omega) hle (by omega) (by omega) _ (by omega)
    · obtain rfl : pos = s.size := by omega
      rw [squintref18_Parse.l0, if_neg (by omega), parseRun, if_neg hlt]
      by_cases hfl : fr < s.size
      · rw [if_pos (by omega), if_pos hfl, show wrap64 ((out.length : Int) + 1) = ((out.length + 1 : Nat) : Int) by simp only [wrap64]; omega]
      · rw [if_neg (by omega), if_neg hfl]
        rfl
theorem ref_parse (s : ByteArray) (hs : s.size < 4294967281) : squintref18_Parse.f (s.size + 1) s = some ((parseOf s).1, ((parseOf s).2.1 : Int), (parseOf s).2.2) :=
  ref_run s hs (s.size + 1) 0 0 [] (Nat.le_refl _) (Nat.zero_le _) (Nat.le_refl _) (by omega) (s.size + 1) (by omega)
end Go.Proofs.YtiapfhlipoomaaaDoor.Given
end
section
namespace Go.Proofs.YtiapfhlipoomaaaDoor.Given
open Go.RowKit Go.Proofs.YtiapfhlipoomaaaDoorW.PrintWords Go.Proofs.YtiapfhlipoomaaaDoorW.PrintLast Go.Proofs.YtiapfhlipoomaaaDoorW.PrintMore Go.Proofs.YtiapfhlipoomaaaDoor.Print
set_option linter.unusedVariables false
set_option linter.unusedSimpArgs false
theorem markAll_at (v : Int) (xs : List S24) (i : Nat) (h : i < xs.length) : rd_T24 (markAll v xs) (i : Int) = markE v i xs[i] := by
  have h2 : i < (markAll v xs).length := by rw [markAll_length]; exact h
  have : rd_T24 (markAll v xs) (i : Int) = (markAll v xs)[i] := by simp [rd_T24, h2]
  rw [this]
  exact List.getElem_mapIdx
theorem marked_l1 (v : Int) (L : List S24) (i : Nat) (l : List Int) (hi : i < L.length) (hl : (rd_T24 L (i : Int)).f7 = l) (hv : ∀ n ∈ l, n = wrap64 (v - i)) (hb : l.length < 4294967296) (h : ∃ k, squintlaw18_marked.l0 k L v (wrap64 ((i : Int) + 1)) = some true) :
    ∀ d j, j + d = l.length → ∃ k, squintlaw18_marked.l1 k L v (i : Int) (j : Int) = some true
  | 0, j, hj => by
    obtain ⟨k, hk⟩ := h
    refine ⟨k + 1, ?_⟩
    rw [squintlaw18_marked.l1, if_pos (by omega), if_pos (by omega), hl, if_neg (by omega)]
    exact hk
  | d + 1, j, hj => by
    obtain ⟨k, hk⟩ := marked_l1 v L i l hi hl hv hb h d (j + 1) (by omega)
    have hjl : j < l.length := by omega
    have hr : rd l (j : Int) = wrap64 (v - i) := by
      have : rd l (j : Int) = l[j] := by simp [rd, hjl]
      rw [this]
      exact hv _ (List.getElem_mem hjl)
    refine ⟨k + 1, ?_⟩
    rw [squintlaw18_marked.l1, if_pos (by omega), if_pos (by omega), hl, if_pos (by omega), if_pos (by omega), if_pos hr, show wrap64 ((j : Int) + 1) = ((j + 1 : Nat) : Int) by simp only [wrap64]; omega]
    exact hk
theorem marked_l0 (v : Int) (xs : List S24) (hn : xs.length < 4294967296) (hb : ∀ x ∈ xs, x.f7.length < 4294967296) : ∀ d i, i + d = xs.length → ∃ k, squintlaw18_marked.l0 k (markAll v xs) v (i : Int) = some true
  | 0, i, hi => ⟨1, by rw [squintlaw18_marked.l0, markAll_length, if_neg (by omega)]⟩
  | d + 1, i, hi => by
    have hil : i < xs.length := by omega
    have ha := markAll_at v xs i hil
    obtain ⟨k, hk⟩ := marked_l0 v xs hn hb d (i + 1) (by omega)
    have hml := markAll_length v xs
    obtain ⟨k2, hk2⟩ := marked_l1 v (markAll v xs) i _ (by omega) rfl (fun n hn => by
      rw [ha] at hn
      obtain ⟨_, _, rfl⟩ := List.mem_map.1 hn
      rfl) (by rw [ha]; show (xs[i].f7.map _).length < _; rw [List.length_map]; exact hb _ (List.getElem_mem hil)) ⟨k, by rw [show wrap64 ((i : Int) + 1) = ((i + 1 : Nat) : Int) by simp only [wrap64]; omega]; exact hk⟩ _ 0 (Nat.zero_add _)
    refine ⟨k2 + 1, ?_⟩
    rw [squintlaw18_marked.l0, markAll_length, if_pos (by omega), if_pos (by omega), if_pos (by rw [ha]; rfl)]
    exact hk2
theorem marked_all (v : Int) (xs : List S24) (hn : xs.length < 4294967296) (hb : ∀ x ∈ xs, x.f7.length < 4294967296) : ∃ k, squintlaw18_marked.f k (markAll v xs) v = some true :=
  marked_l0 v xs hn hb xs.length 0 (Nat.zero_add _)
end Go.Proofs.YtiapfhlipoomaaaDoor.Given
end
section
namespace Go.Proofs.YtiapfhlipoomaaaDoor.Given
open Go.RowKit Go.Proofs.YtiapfhlipoomaaaDoorW.PrintWords Go.Proofs.YtiapfhlipoomaaaDoorW.PrintLast Go.Proofs.YtiapfhlipoomaaaDoorW.PrintMore Go.Proofs.YtiapfhlipoomaaaDoor.Print
set_option linter.unusedVariables false
set_option linter.unusedSimpArgs false
def shEvs : List S24 := [⟨1, 0, 0, 1, 0, 0, 0, []⟩, ⟨2, 1, 0, 0, 0, 3, 0, []⟩, ⟨9, 0, 0, 0, 0, 0, 0, [0, 2]⟩, ⟨6, 2, 0, 0, 0, 0, 2, []⟩, ⟨8, 0, 0, 0, 0, 0, 0, []⟩]
theorem sh_print : printOf shEvs = (⟨#[98, 111, 114, 110, 32, 48, 32, 49, 10, 109, 101, 101, 116, 32, 49, 32, 48, 32, 48, 32, 48, 32, 51, 10, 112, 114, 111, 98, 101, 32, 48, 32, 50, 10, 116, 114, 97, 112, 32, 50, 32, 105, 110, 100, 101, 120, 10, 105, 100, 108, 101, 10]⟩, 0) := by kernel_rfl
theorem sh_size : (textOf shEvs).size ≤ 1099511627776 := by decide +kernel
theorem sh_parse : parseOf ⟨#[101, 120, 105, 116, 32, 48, 10, 101, 120, 105, 116, 32, 48, 48, 10]⟩ = ([], 2, 180) := by kernel_rfl
theorem sh_rng : ∀ x ∈ shEvs, rngX x := by
  intro x hx
  simp only [shEvs, List.mem_cons, List.not_mem_nil, or_false] at hx
  rcases hx with rfl | rfl | rfl | rfl | rfl <;> refine ⟨fun o ho => ?_, fun n hn => ?_⟩ <;> first | (rcases o with _ | _ | _ | _ | _ | _ | _ | o <;> first | (show -9223372036854775808 ≤ (_ : Int) ∧ (_ : Int) ≤ 9223372036854775807; decide) | omega) | (simp at hn; try (rcases hn with rfl | rfl <;> decide))
theorem sh_check : checkOf ⟨5, -1, 0, 0, 0, 0, 0, []⟩ = 180 := by kernel_rfl
set_option maxRecDepth 100000 in
set_option maxHeartbeats 4000000 in
theorem shown_true (w : World) (hL : LW w) : Calls Tryd.prog 9 #[] w fun e w' => e = .returned (.bool true) ∧ Below w.heap.size w w' := by
  have hu24 := Tryd.underlying24
  have HL := Aside0.mk hL
  have HB := Aside0.mk (Below.refl w.heap.size w)
  clear hL
  go_enter Tryd.func9, Tryd.ntmps9
  go_wp2_with (first
    | ((with_reducible refine gate_dst (N := 9) rfl ?_); refine Kd.R_lit (Kd.int .i64) (w0 := w) w.heap.size 3 ?hg (N := 9) ?hd (xs := ([0, 2] : List Int)) (inner := [.int .i64 0, .int .i64 2]) (ok := fun _ => True) (okp := fun _ => True) ?hr ?hp (fun _ hk => hk) trivial ?hb ?hs (by simp) ?_; (case hd => rfl); (case hg => rfl); (case hr => first | (go_simp; done) | (go_simp; rfl)); (case hp => exact (Reps.one (show Kd.M (Kd.int .i64) _ _ _ (0 : Int) [.int .i64 0] from rfl) (Reps.one (show Kd.M (Kd.int .i64) _ _ _ (2 : Int) [.int .i64 2] from rfl) (Reps.none _ _)))); (case hb => exact HB.out); (case hs => exact HB.out.size); intro v9 w9 ho hb hg_ hn_; obtain ⟨A9, c9, rfl⟩ := Kd.R_slice ho; have HR9 := Aside0.mk ho; clear HB; have HB := Aside0.mk hb; clear ho hb hg_ hn_)
    | ((with_reducible refine gate_dst (N := 13) rfl ?_); refine Kd.R_lit k24 (w0 := w) w.heap.size 24 ?hg (N := 13) ?hd (xs := ([⟨1, 0, 0, 1, 0, 0, 0, []⟩, ⟨2, 1, 0, 0, 0, 3, 0, []⟩, ⟨9, 0, 0, 0, 0, 0, 0, [0, 2]⟩, ⟨6, 2, 0, 0, 0, 0, 2, []⟩, ⟨8, 0, 0, 0, 0, 0, 0, []⟩] : List S24)) (inner := [.int .i64 1, .int .i64 0, .int .i64 0, .int .i64 1, .int .i64 0, .int .i64 0, .int .i64 0, .slice none 0 0, .int .i64 2, .int .i64 1, .int .i64 0, .int .i64 0, .int .i64 0, .int .i64 3, .int .i64 0, .slice none 0 0, .int .i64 9, .int .i64 0, .int .i64 0, .int .i64 0, .int .i64 0, .int .i64 0, .int .i64 0, .slice A9 2 c9, .int .i64 6, .int .i64 2, .int .i64 0, .int .i64 0, .int .i64 0, .int .i64 0, .int .i64 2, .slice none 0 0, .int .i64 8, .int .i64 0, .int .i64 0, .int .i64 0, .int .i64 0, .int .i64 0, .int .i64 0, .slice none 0 0]) (ok := fun _ => True) (okp := fun _ => True) ?hr ?hp (fun _ hk => hk) trivial ?hb ?hs (by simp) ?_; (case hd => rfl); (case hg => rfl); (case hr => first | (go_simp; done) | (go_simp; rfl)); (case hp => exact (Reps.c8 (k24_mkM _ _ _ ⟨1, 0, 0, 1, 0, 0, 0, []⟩ (Kd.R_nil _ _ _ _ _)) (Reps.c8 (k24_mkM _ _ _ ⟨2, 1, 0, 0, 0, 3, 0, []⟩ (Kd.R_nil _ _ _ _ _)) (Reps.c8 (k24_mkM _ _ _ ⟨9, 0, 0, 0, 0, 0, 0, [0, 2]⟩ HR9.out) (Reps.c8 (k24_mkM _ _ _ ⟨6, 2, 0, 0, 0, 0, 2, []⟩ (Kd.R_nil _ _ _ _ _)) (Reps.c8 (k24_mkM _ _ _ ⟨8, 0, 0, 0, 0, 0, 0, []⟩ (Kd.R_nil _ _ _ _ _)) (Reps.none _ _))))))); (case hb => exact HB.out); (case hs => exact HB.out.size); intro v13 w13 ho hb hg_ hn_; obtain ⟨A13, c13, rfl⟩ := Kd.R_slice ho; have HR13 := Aside0.mk ho; have m_ := Aside0.mk (Kd.R_grown HR9.out hg_ (fun _ _ => by simp)); clear HR9; have HR9 := m_; clear m_; clear HB; have HB := Aside0.mk hb; clear ho hb hg_ hn_)
    | (go_at_call 14; refine (print_any A13 c13 shEvs _ (Kd.R_reads' HR13.out).2.2 (HL.out.below HB.out) sh_rng sh_size).mono ?_; rw [sh_print]; rintro e wa ⟨rfl, hb⟩; have n3_ := Aside0.mk (below_then HB.out HB.out.size hb); clear HB hb HR13 HR9; have HB := n3_; clear n3_)
    | (go_at_call 18; refine (parse_any _ _ (HL.out.below HB.out) (by decide)).mono ?_; rw [sh_parse]; rintro e wb ⟨Ab, cb, rfl, _, hb⟩; have n3_ := Aside0.mk (below_then HB.out HB.out.size hb); clear HB hb; have HB := n3_; clear n3_)
    | (go_at_call 10; refine (chk_any ⟨5, -1, 0, 0, 0, 0, 0, []⟩ none 0 _ (Kd.C_nil _ _) (Nat.le_refl _)).mono ?_; rw [sh_check]; rintro e wc ⟨rfl, hb⟩; have n3_ := Aside0.mk (below_then HB.out HB.out.size hb); clear HB hb; have HB := n3_; clear n3_))
  go_ret
  exact ⟨rfl, HB.out⟩
end Go.Proofs.YtiapfhlipoomaaaDoor.Given
end
section
namespace Go.Proofs.YtiapfhlipoomaaaDoor.Given
open Go.RowKit Go.Proofs.YtiapfhlipoomaaaDoorW.PrintWords Go.Proofs.YtiapfhlipoomaaaDoorW.PrintLast Go.Proofs.YtiapfhlipoomaaaDoorW.PrintMore Go.Proofs.YtiapfhlipoomaaaDoor.Print
set_option linter.unusedVariables false
set_option linter.unusedSimpArgs false
theorem text_cnt : ∀ l : List S24, l.length ≤ (textOf l).size := by
  have key : ∀ (l : List S24) (s : ByteArray), s.size + l.length ≤ (l.foldl (fun acc x => acc ++ lineB (wordsX x)) s).size := by
    intro l
    induction l with
    | nil => intro s; exact Nat.le_refl _
    | cons x l ih =>
      intro s
      refine Nat.le_trans ?_ (ih _)
      have h := words_len (wordsX x)
      have h2 : 1 ≤ (wordsX x).length := by unfold wordsX wordsK wordsF; simp only [List.length_append, List.length_cons]; omega
      rw [size_append, List.length_cons]
      omega
  intro l
  exact Nat.le_trans (by omega) (key l ⟨#[]⟩)
theorem text_lst (l : List S24) (x : S24) (hx : x ∈ l) : x.f7.length ≤ (textOf l).size := by
  obtain ⟨a, b, rfl⟩ := List.append_of_mem hx
  have h1 := textOf_size (a ++ [x]) b
  rw [List.append_assoc] at h1
  refine Nat.le_trans ?_ h1
  rw [textOf_snoc, size_append]
  have h := words_len (wordsX x)
  have h2 : x.f7.length ≤ (wordsX x).length := by unfold wordsX wordsK; simp only [List.length_append, List.length_map]; omega
  omega
theorem parse_small (s : ByteArray) : (parseOf s).1.length ≤ s.size ∧ ∀ x ∈ (parseOf s).1, x.f7.length ≤ s.size := by
  rcases parse_back s with ⟨r, h, hk, hp⟩ | ⟨n, _, h⟩
  · rw [h]
    have e : textOf r = s := by
      unfold printOf at hp
      rw [if_pos (List.all_eq_true.2 (fun x hx => (hk x hx).1))] at hp
      exact congrArg Prod.fst hp
    exact ⟨by have := text_cnt r; rw [e] at this; exact this, fun x hx => by have := text_lst r x hx; rw [e] at this; exact this⟩
  · rw [h]
    exact ⟨Nat.zero_le _, fun x hx => by cases hx⟩
structure Mem (w : World) (v : Value) (xs : List S24) (lo hi : Nat) : Prop where
  row : Kd.S k24 24 w lo (fun k => lo ≤ k ∧ k < hi) v xs
  ord : lo ≤ hi
  top : hi ≤ w.heap.size
theorem Mem.below {w w1 : World} {v : Value} {xs : List S24} {lo hi : Nat} (h : Mem w v xs lo hi) (hb : Below w.heap.size w w1) : Mem w1 v xs lo hi := ⟨Kd.S_below h.row hb, h.ord, Nat.le_trans h.top hb.size⟩
theorem Mem.kept {w w1 : World} {v : Value} {xs : List S24} {lo hi lo2 hi2 : Nat} (h : Mem w v xs lo hi) (hk : Kept (fun k => lo2 ≤ k ∧ k < hi2) w w1) (ha : hi ≤ lo2 ∨ hi2 ≤ lo) : Mem w1 v xs lo hi :=
  ⟨Kd.S_step h.row (fun k ho hlt => hk.block k hlt (fun h2 => by omega)), h.ord, Nat.le_trans h.top hk.size⟩
theorem Mem.reads {w : World} {A : Option Addr} {n c : Nat} {xs : List S24} {lo hi : Nat} (h : Mem w (.slice A n c) xs lo hi) : xs.length ≤ c ∧ Kd.C k24 w A xs.length xs := by
  obtain ⟨h1, h2, h3⟩ := Kd.S_reads' h.row
  exact ⟨by omega, h3⟩
theorem Kept.below {w w0 w1 : World} {base lo hi : Nat} (hb : Below base w0 w) (hk : Kept (fun k => lo ≤ k ∧ k < hi) w w1) (hl : base ≤ lo) (hs : base ≤ w.heap.size) : Below base w0 w1 :=
  ⟨hk.os.trans hb.os, hk.tape.trans hb.tape, hk.output.trans hb.output, Nat.le_trans hb.size hk.size, fun k h => (hk.block k (by omega) (fun h2 => by omega)).trans (hb.block k h)⟩
theorem parse_mem (text : ByteArray) (qs : List S24) (ni z : Int) (w : World) (hL : LW w) (hs : text.size < 4294967281) (h : ∃ n : Nat, parseOf text = (qs, n, z) ∧ (n : Int) = ni) :
    Calls Tryd.prog 18 #[.string text] w fun e w' => ∃ A c, e = .returned (.tuple #[.slice A qs.length c, .int .i64 ni, .int .i64 z]) ∧ Mem w' (.slice A qs.length c) qs w.heap.size w'.heap.size ∧ Below w.heap.size w w' := by
  obtain ⟨n, h, hn⟩ := h
  refine (parse_any text w hL hs).mono ?_
  rw [h]
  rintro e w' ⟨A, c, he, hS, hb⟩
  subst hn
  exact ⟨A, c, he, ⟨Kd.S_mono (Kd.S_bound hS) (fun k hk => ⟨hk.2.1, hk.2.2.1⟩), hb.size, Nat.le_refl _⟩, hb⟩
theorem ref_mem (text : ByteArray) (qs : List S24) (ni z : Int) (w : World) (hs : text.size < 4294967281) (h : ∃ n : Nat, parseOf text = (qs, n, z) ∧ (n : Int) = ni) :
    Calls Tryd.prog 19 #[.string text] w fun e w' => ∃ A c, e = .returned (.tuple #[.slice A qs.length c, .int .i64 ni, .int .i64 z]) ∧ Mem w' (.slice A qs.length c) qs w.heap.size w'.heap.size ∧ Below w.heap.size w w' := by
  obtain ⟨n, h, hn⟩ := h
  have hp := ref_parse text hs
  rw [h] at hp
  refine (squintref18_Parse.calls _ text _ _ _ w hp).mono ?_
  rintro e w' ⟨v0, he, hS, hb⟩
  obtain ⟨A, c, rfl⟩ := Kd.S_slice hS
  subst hn
  exact ⟨A, c, he, ⟨Kd.S_mono (Kd.S_bound hS) (fun k hk => ⟨hk.2.1, hk.2.2.1⟩), hb.size, Nat.le_refl _⟩, hb⟩
theorem mark_mem (A : Option Addr) (cp : Nat) (l : List S24) (v : Int) (lo hi : Nat) (w : World) (h : Mem w (.slice A l.length cp) l lo hi) (hlen : l.length ≤ 1000000000) (hln : ∀ x ∈ l, x.f7.length ≤ 1000000000) :
    Calls Tryd.prog 21 #[.slice A l.length cp, .int .i64 v] w fun e w' => e = .returned (.tuple #[]) ∧ Mem w' (.slice A l.length cp) (markAll v l) lo hi ∧ Kept (fun k => lo ≤ k ∧ k < hi) w w' := by
  refine (mark_any A cp l v lo _ w h.row (Nat.le_trans h.ord h.top) hlen hln).mono ?_
  rintro e w' ⟨he, hS, hk⟩
  exact ⟨he, ⟨hS, h.ord, Nat.le_trans h.top hk.size⟩, hk⟩
theorem marked_mem (A : Option Addr) (cp : Nat) (l : List S24) (v : Int) (lo hi : Nat) (w : World) (h : Mem w (.slice A l.length cp) (markAll v l) lo hi) (hlen : l.length < 4294967296) (hln : ∀ x ∈ l, x.f7.length < 4294967296) :
    Calls Tryd.prog 22 #[.slice A l.length cp, .int .i64 v] w fun e w' => e = .returned (.bool true) ∧ Below w.heap.size w w' := by
  obtain ⟨k, hk⟩ := marked_all v l hlen hln
  obtain ⟨h1, h2⟩ := h.reads
  have e := markAll_length v l
  have hc := squintlaw18_marked.calls k A cp (markAll v l) v true w h2 h1 hk
  rw [e] at hc
  exact hc.mono fun _ _ h => ⟨h.1, h.2.below⟩
set_option maxRecDepth 100000 in
set_option maxHeartbeats 2000000 in
theorem parses_walk (text other : ByteArray) (w : World) (hL : LW w) (ht : text.size ≤ 100000000) (ho : other.size ≤ 100000000) :
    Calls Tryd.prog 5 #[.string text, .string other] w fun e w' => e = .returned (.bool true) ∧ Below w.heap.size w w' := by
  obtain ⟨qa, na, za, hpa⟩ : ∃ q n z, parseOf text = (q, n, z) := ⟨_, _, _, rfl⟩
  obtain ⟨qb, nb, zb, hpb⟩ : ∃ q n z, parseOf other = (q, n, z) := ⟨_, _, _, rfl⟩
  obtain ⟨ia, hia⟩ : ∃ i : Int, (na : Int) = i := ⟨_, rfl⟩
  obtain ⟨ib, hib⟩ : ∃ i : Int, (nb : Int) = i := ⟨_, rfl⟩
  have hsa := parse_small text
  have hsb := parse_small other
  rw [hpa] at hsa
  rw [hpb] at hsb
  have la : qa.length ≤ 100000000 := Nat.le_trans hsa.1 ht
  have lb : qb.length ≤ 100000000 := Nat.le_trans hsb.1 ho
  have ma : ∀ x ∈ qa, x.f7.length ≤ 100000000 := fun x hx => Nat.le_trans (hsa.2 x hx) ht
  have mb : ∀ x ∈ qb, x.f7.length ≤ 100000000 := fun x hx => Nat.le_trans (hsb.2 x hx) ho
  obtain ⟨ka, hka⟩ := samee_self qa (by omega) (fun x hx => by have := ma x hx; omega)
  obtain ⟨kb, hkb⟩ := samee_self qb (by omega) (fun x hx => by have := mb x hx; omega)
  have KA := Aside0.mk hka
  have KB := Aside0.mk hkb
  have LA := Aside0.mk la
  have LB := Aside0.mk lb
  have MA := Aside0.mk ma
  have MB := Aside0.mk mb
  have PA_ : Aside0 (∃ n : Nat, parseOf text = (qa, n, za) ∧ (n : Int) = ia) := ⟨na, hpa, hia⟩
  have PB_ : Aside0 (∃ n : Nat, parseOf other = (qb, n, zb) ∧ (n : Int) = ib) := ⟨nb, hpb, hib⟩
  have ST : Aside0 (text.size < 4294967281) := ⟨by omega⟩
  have SO : Aside0 (other.size < 4294967281) := ⟨by omega⟩
  have HL := Aside0.mk hL
  have HB := Aside0.mk (Below.refl w.heap.size w)
  have P0 := Aside0.mk True.intro
  have P1 := Aside0.mk True.intro
  have P2 := Aside0.mk True.intro
  have P3 := Aside0.mk True.intro
  have P4 := Aside0.mk True.intro
  have P5 := Aside0.mk True.intro
  have P6 := Aside0.mk True.intro
  have P7 := Aside0.mk True.intro
  have P8 := Aside0.mk True.intro
  have P9 := Aside0.mk True.intro
  have P10 := Aside0.mk True.intro
  have P11 := Aside0.mk True.intro
  have P12 := Aside0.mk True.intro
  have P13 := Aside0.mk True.intro
  clear hka hkb la lb ma mb hsa hsb hpa hpb hia hib ht ho hL
  go_enter Tryd.func5, Tryd.ntmps5
  go_upto_region 10 with (first
    | (go_at_call 9; clear P0; refine (shown_true _ (HL.out.below HB.out)).mono ?_; rintro e u0 ⟨rfl, hb⟩; have n0_ := Aside0.mk (below_step HB.out hb); clear HB; have HB := n0_; clear n0_; clear hb)
    | (go_at_call 18; clear P1; refine (parse_mem text qa ia za _ (HL.out.below HB.out) ST.out PA_.out).mono ?_; rintro e u1 ⟨A1, c1, rfl, hm, hb⟩; have SZ := Aside0.mk HB.out.size; have n0_ := Aside0.mk (below_step HB.out hb); clear HB; have HB := n0_; clear n0_; have MA1 := Aside0.mk hm; clear hm hb)
    | (go_at_call 18; clear P2; refine (parse_mem other qb ib zb _ (HL.out.below HB.out) SO.out PB_.out).mono ?_; rintro e u2 ⟨A2, c2, rfl, hm, hb⟩; have m0_ := Aside0.mk (MA1.out.below hb); have n0_ := Aside0.mk (below_step HB.out hb); clear HB MA1; have HB := n0_; clear n0_; have MA1 := m0_; clear m0_; have MB1 := Aside0.mk hm; clear hm hb)
    | (go_at_call 18; clear P3; refine (parse_mem text qa ia za _ (HL.out.below HB.out) ST.out PA_.out).mono ?_; rintro e u3 ⟨A3, c3, rfl, hm, hb⟩; have m0_ := Aside0.mk (MA1.out.below hb); have m1_ := Aside0.mk (MB1.out.below hb); have n0_ := Aside0.mk (below_step HB.out hb); clear HB MA1 MB1; have HB := n0_; clear n0_; have MA1 := m0_; clear m0_; have MB1 := m1_; clear m1_; have MC1 := Aside0.mk hm; clear hm hb)
    | (go_at_call 19; clear P4; refine (ref_mem text qa ia za _ ST.out PA_.out).mono ?_; rintro e u4 ⟨A4, c4, rfl, hm, hb⟩; have m0_ := Aside0.mk (MA1.out.below hb); have m1_ := Aside0.mk (MB1.out.below hb); have m2_ := Aside0.mk (MC1.out.below hb); have n0_ := Aside0.mk (below_step HB.out hb); clear HB MA1 MB1 MC1; have HB := n0_; clear n0_; have MA1 := m0_; clear m0_; have MB1 := m1_; clear m1_; have MC1 := m2_; clear m2_; have MD1 := Aside0.mk hm; clear hm hb)
    | (go_at_call 19; clear P5; refine (ref_mem other qb ib zb _ SO.out PB_.out).mono ?_; rintro e u5 ⟨A5, c5, rfl, hm, hb⟩; have m0_ := Aside0.mk (MA1.out.below hb); have m1_ := Aside0.mk (MB1.out.below hb); have m2_ := Aside0.mk (MC1.out.below hb); have m3_ := Aside0.mk (MD1.out.below hb); have n0_ := Aside0.mk (below_step HB.out hb); clear HB MA1 MB1 MC1 MD1; have HB := n0_; clear n0_; have MA1 := m0_; clear m0_; have MB1 := m1_; clear m1_; have MC1 := m2_; clear m2_; have MD1 := m3_; clear m3_; have ME1 := Aside0.mk hm; clear hm hb)
    | (go_at_call 20; clear P6; refine (squintlaw18_sameEvents.calls ka A1 c1 qa A4 c4 qa true _ MA1.out.reads.2 MA1.out.reads.1 MD1.out.reads.2 MD1.out.reads.1 KA.out).mono ?_; rintro e u6 ⟨rfl, hb⟩; have m0_ := Aside0.mk (MA1.out.below hb); have m1_ := Aside0.mk (MB1.out.below hb); have m2_ := Aside0.mk (MC1.out.below hb); have m3_ := Aside0.mk (MD1.out.below hb); have m4_ := Aside0.mk (ME1.out.below hb); have n0_ := Aside0.mk (below_step HB.out hb); clear HB MA1 MB1 MC1 MD1 ME1; have HB := n0_; clear n0_; have MA1 := m0_; clear m0_; have MB1 := m1_; clear m1_; have MC1 := m2_; clear m2_; have MD1 := m3_; clear m3_; have ME1 := m4_; clear m4_; clear hb)
    | (go_at_call 20; clear P7; refine (squintlaw18_sameEvents.calls kb A2 c2 qb A5 c5 qb true _ MB1.out.reads.2 MB1.out.reads.1 ME1.out.reads.2 ME1.out.reads.1 KB.out).mono ?_; rintro e u7 ⟨rfl, hb⟩; have m0_ := Aside0.mk (MA1.out.below hb); have m1_ := Aside0.mk (MB1.out.below hb); have m2_ := Aside0.mk (MC1.out.below hb); have m3_ := Aside0.mk (MD1.out.below hb); have m4_ := Aside0.mk (ME1.out.below hb); have n0_ := Aside0.mk (below_step HB.out hb); clear HB MA1 MB1 MC1 MD1 ME1; have HB := n0_; clear n0_; have MA1 := m0_; clear m0_; have MB1 := m1_; clear m1_; have MC1 := m2_; clear m2_; have MD1 := m3_; clear m3_; have ME1 := m4_; clear m4_; clear hb)
    | (go_at_call 20; clear P8; refine (squintlaw18_sameEvents.calls ka A3 c3 qa A4 c4 qa true _ MC1.out.reads.2 MC1.out.reads.1 MD1.out.reads.2 MD1.out.reads.1 KA.out).mono ?_; rintro e u8 ⟨rfl, hb⟩; have m0_ := Aside0.mk (MA1.out.below hb); have m1_ := Aside0.mk (MB1.out.below hb); have m2_ := Aside0.mk (MC1.out.below hb); have m3_ := Aside0.mk (MD1.out.below hb); have m4_ := Aside0.mk (ME1.out.below hb); have n0_ := Aside0.mk (below_step HB.out hb); clear HB MA1 MB1 MC1 MD1 ME1; have HB := n0_; clear n0_; have MA1 := m0_; clear m0_; have MB1 := m1_; clear m1_; have MC1 := m2_; clear m2_; have MD1 := m3_; clear m3_; have ME1 := m4_; clear m4_; clear hb))
  go_wp2_with (first
    | (go_at_call 21; clear P9; refine (mark_mem A1 c1 qa (-3) _ _ _ MA1.out (by have := LA.out; omega) (fun x hx => by have := MA.out x hx; omega)).mono ?_; rintro e u9 ⟨rfl, hm, hk⟩; have m0_ := Aside0.mk (MB1.out.kept hk (by have := SZ.out; have := MA1.out.ord; have := MB1.out.ord; have := MC1.out.ord; have := MD1.out.ord; have := ME1.out.ord; omega)); have m1_ := Aside0.mk (MC1.out.kept hk (by have := SZ.out; have := MA1.out.ord; have := MB1.out.ord; have := MC1.out.ord; have := MD1.out.ord; have := ME1.out.ord; omega)); have m2_ := Aside0.mk (MD1.out.kept hk (by have := SZ.out; have := MA1.out.ord; have := MB1.out.ord; have := MC1.out.ord; have := MD1.out.ord; have := ME1.out.ord; omega)); have m3_ := Aside0.mk (ME1.out.kept hk (by have := SZ.out; have := MA1.out.ord; have := MB1.out.ord; have := MC1.out.ord; have := MD1.out.ord; have := ME1.out.ord; omega)); have n0_ := Aside0.mk (Kept.below HB.out hk (by have := SZ.out; have := MA1.out.ord; have := MB1.out.ord; have := MC1.out.ord; have := MD1.out.ord; have := ME1.out.ord; omega) HB.out.size); clear HB MA1 MB1 MC1 MD1 ME1; have HB := n0_; clear n0_; have MB1 := m0_; clear m0_; have MC1 := m1_; clear m1_; have MD1 := m2_; clear m2_; have ME1 := m3_; clear m3_; have MA1 := Aside0.mk hm; clear hm hk)
    | (go_at_call 21; clear P10; refine (mark_mem A2 c2 qb (-4) _ _ _ MB1.out (by have := LB.out; omega) (fun x hx => by have := MB.out x hx; omega)).mono ?_; rintro e u10 ⟨rfl, hm, hk⟩; have m0_ := Aside0.mk (MA1.out.kept hk (by have := SZ.out; have := MA1.out.ord; have := MB1.out.ord; have := MC1.out.ord; have := MD1.out.ord; have := ME1.out.ord; omega)); have m1_ := Aside0.mk (MC1.out.kept hk (by have := SZ.out; have := MA1.out.ord; have := MB1.out.ord; have := MC1.out.ord; have := MD1.out.ord; have := ME1.out.ord; omega)); have m2_ := Aside0.mk (MD1.out.kept hk (by have := SZ.out; have := MA1.out.ord; have := MB1.out.ord; have := MC1.out.ord; have := MD1.out.ord; have := ME1.out.ord; omega)); have m3_ := Aside0.mk (ME1.out.kept hk (by have := SZ.out; have := MA1.out.ord; have := MB1.out.ord; have := MC1.out.ord; have := MD1.out.ord; have := ME1.out.ord; omega)); have n0_ := Aside0.mk (Kept.below HB.out hk (by have := SZ.out; have := MA1.out.ord; have := MB1.out.ord; have := MC1.out.ord; have := MD1.out.ord; have := ME1.out.ord; omega) HB.out.size); clear HB MA1 MB1 MC1 MD1 ME1; have HB := n0_; clear n0_; have MA1 := m0_; clear m0_; have MC1 := m1_; clear m1_; have MD1 := m2_; clear m2_; have ME1 := m3_; clear m3_; have MB1 := Aside0.mk hm; clear hm hk)
    | (go_at_call 20; clear P11; refine (squintlaw18_sameEvents.calls ka A3 c3 qa A4 c4 qa true _ MC1.out.reads.2 MC1.out.reads.1 MD1.out.reads.2 MD1.out.reads.1 KA.out).mono ?_; rintro e u11 ⟨rfl, hb⟩; have m0_ := Aside0.mk (MA1.out.below hb); have m1_ := Aside0.mk (MB1.out.below hb); have m2_ := Aside0.mk (MC1.out.below hb); have m3_ := Aside0.mk (MD1.out.below hb); have m4_ := Aside0.mk (ME1.out.below hb); have n0_ := Aside0.mk (below_step HB.out hb); clear HB MA1 MB1 MC1 MD1 ME1; have HB := n0_; clear n0_; have MA1 := m0_; clear m0_; have MB1 := m1_; clear m1_; have MC1 := m2_; clear m2_; have MD1 := m3_; clear m3_; have ME1 := m4_; clear m4_; clear hb)
    | (go_at_call 22; clear P12; refine (marked_mem A1 c1 qa (-3) _ _ _ MA1.out (by have := LA.out; omega) (fun x hx => by have := MA.out x hx; omega)).mono ?_; rintro e u12 ⟨rfl, hb⟩; have m0_ := Aside0.mk (MA1.out.below hb); have m1_ := Aside0.mk (MB1.out.below hb); have m2_ := Aside0.mk (MC1.out.below hb); have m3_ := Aside0.mk (MD1.out.below hb); have m4_ := Aside0.mk (ME1.out.below hb); have n0_ := Aside0.mk (below_step HB.out hb); clear HB MA1 MB1 MC1 MD1 ME1; have HB := n0_; clear n0_; have MA1 := m0_; clear m0_; have MB1 := m1_; clear m1_; have MC1 := m2_; clear m2_; have MD1 := m3_; clear m3_; have ME1 := m4_; clear m4_; clear hb)
    | (go_at_call 22; clear P13; refine (marked_mem A2 c2 qb (-4) _ _ _ MB1.out (by have := LB.out; omega) (fun x hx => by have := MB.out x hx; omega)).mono ?_; rintro e u13 ⟨rfl, hb⟩; have m0_ := Aside0.mk (MA1.out.below hb); have m1_ := Aside0.mk (MB1.out.below hb); have m2_ := Aside0.mk (MC1.out.below hb); have m3_ := Aside0.mk (MD1.out.below hb); have m4_ := Aside0.mk (ME1.out.below hb); have n0_ := Aside0.mk (below_step HB.out hb); clear HB MA1 MB1 MC1 MD1 ME1; have HB := n0_; clear n0_; have MA1 := m0_; clear m0_; have MB1 := m1_; clear m1_; have MC1 := m2_; clear m2_; have MD1 := m3_; clear m3_; have ME1 := m4_; clear m4_; clear hb))
  go_returns
  exact ⟨rfl, HB.out⟩
end Go.Proofs.YtiapfhlipoomaaaDoor.Given
end
section
namespace Go.Proofs.YtiapfhlipoomaaaDoor.Opens
open Go.RowKit Go.Proofs.YtiapfhlipoomaaaDoorW.PrintWords
def Opens {α : Type} (P : Program) (W : World) (t : TypeId) (d : Kd α) (wf : α → Prop) : Prop :=
  ∀ (H : Type) (enc : TypeId × Value → H) (base : Nat) (sp : Nat → Bool) (held : Bool) (fuel : Nat) (cs : List Value) (x : DataW H × List MemPlace),
    DataW.trod enc P W base sp held fuel t cs = some x → (∀ k, k ∈ x.1.weights P t → k ≤ reachBytes) → ∃ a, d.K W a cs ∧ wf a
variable {P : Program} {W : World} {t e : TypeId}
end Go.Proofs.YtiapfhlipoomaaaDoor.Opens
end
section
namespace Go.Proofs.YtiapfhlipoomaaaDoor.Given
open Go.RowKit Go.Proofs.YtiapfhlipoomaaaDoorW.PrintWords Go.Proofs.YtiapfhlipoomaaaDoor.Print
set_option linter.unusedVariables false
set_option linter.unusedSimpArgs false
end Go.Proofs.YtiapfhlipoomaaaDoor.Given
end
