/- The walk of the law's own 'passed'. -/
import Derived.Test.YtmingnhhmaclaaaPlainB
namespace Go.Proofs.Ytmingnhhmaclaaa.Given
open Go.RowKit Go.Proofs.YtmingnhhmaclaaaW.PrintWords Go.Proofs.Ytmingnhhmaclaaa.Print

theorem passedGo_step (l : List Int) (k : Nat) (r : Bool) (hk : k < l.length) : passedGo r (l.drop k) = if (!(r || rd l k == 35) && !(isBl (rd l k))) = true then false else passedGo (if rd l k == 10 then false else (r || rd l k == 35)) (l.drop (k + 1)) := by
  rw [List.drop_eq_getElem_cons hk]
  have : rd l k = l[k] := by simp [rd, List.getElem?_eq_getElem hk]
  rw [this]
  rfl

set_option maxHeartbeats 1000000 in
theorem passed_any (A : Option Addr) (c : Nat) (l : List Int) (w : World) (hr : Kd.C (Kd.int .u8) w A l.length l) (_hc : l.length ≤ c) :
    Calls Try.prog 17 #[.slice A l.length c] w fun e w' => e = .returned (.bool (passedGo false l)) ∧ w = w' := by
  have hm := hr.2.1
  have HR := Aside0.mk hr
  clear hr
  go_enter Try.func17, Try.ntmps17
  go_wp2
  go_loop [3, 4] (fun b i => ∃ (k : Nat) (r : Bool), i = .int .i64 k ∧ b = .bool r ∧ k ≤ l.length ∧ Aside0 (passedGo false l = passedGo r (l.drop k))) (fun _ i => l.length - (intOf i).toNat)
  case atStart => exact ⟨0, false, rfl, rfl, by omega, ⟨rfl⟩⟩
  case round =>
    obtain ⟨k, r, rfl, rfl, hk, HF⟩ := hrel
    by_cases hlt : k < l.length
    · obtain ⟨ad, e0, hx⟩ := Kd.at_int HR.out (k : Int) (by omega) (by omega)
      cases e0
      rw [Int.toNat_natCast] at hx
      have hst := passedGo_step l k r hlt
      have HST := Aside0.mk hst
      clear hst
      by_cases n35 : rd l k = 35
      · have hc := n35
        cases r with
        | true =>
          have e35 : (rd l k == 35) = true := by rw [hc]; rfl
          have d35 : (rd l k != 35) = false := by rw [hc]; rfl
          have e32 : (rd l k == 32) = false := by rw [hc]; rfl
          have d32 : (rd l k != 32) = true := by rw [hc]; rfl
          have e9 : (rd l k == 9) = false := by rw [hc]; rfl
          have d9 : (rd l k != 9) = true := by rw [hc]; rfl
          have e10 : (rd l k == 10) = false := by rw [hc]; rfl
          have d10 : (rd l k != 10) = true := by rw [hc]; rfl
          have e13 : (rd l k == 13) = false := by rw [hc]; rfl
          have d13 : (rd l k != 13) = true := by rw [hc]; rfl
          have HE : Aside0 (passedGo false l = passedGo true (l.drop (k + 1))) := ⟨by rw [HF.out, HST.out, if_neg (by simp [isBl, e35, e32, e9, e10, e13])]; simp [e10, e35]⟩
          go_wp2
          go_round
          case rel => exact ⟨k + 1, true, by go_num, rfl, by omega, HE⟩
          case measure => simp [intOf]; omega
        | false =>
          have e35 : (rd l k == 35) = true := by rw [hc]; rfl
          have d35 : (rd l k != 35) = false := by rw [hc]; rfl
          have e32 : (rd l k == 32) = false := by rw [hc]; rfl
          have d32 : (rd l k != 32) = true := by rw [hc]; rfl
          have e9 : (rd l k == 9) = false := by rw [hc]; rfl
          have d9 : (rd l k != 9) = true := by rw [hc]; rfl
          have e10 : (rd l k == 10) = false := by rw [hc]; rfl
          have d10 : (rd l k != 10) = true := by rw [hc]; rfl
          have e13 : (rd l k == 13) = false := by rw [hc]; rfl
          have d13 : (rd l k != 13) = true := by rw [hc]; rfl
          have HE : Aside0 (passedGo false l = passedGo true (l.drop (k + 1))) := ⟨by rw [HF.out, HST.out, if_neg (by simp [isBl, e35, e32, e9, e10, e13])]; simp [e10, e35]⟩
          go_wp2
          go_round
          case rel => exact ⟨k + 1, true, by go_num, rfl, by omega, HE⟩
          case measure => simp [intOf]; omega
      · skip
        by_cases n32 : rd l k = 32
        · have hc := n32
          cases r with
          | true =>
            have e35 : (rd l k == 35) = false := by rw [hc]; rfl
            have d35 : (rd l k != 35) = true := by rw [hc]; rfl
            have e32 : (rd l k == 32) = true := by rw [hc]; rfl
            have d32 : (rd l k != 32) = false := by rw [hc]; rfl
            have e9 : (rd l k == 9) = false := by rw [hc]; rfl
            have d9 : (rd l k != 9) = true := by rw [hc]; rfl
            have e10 : (rd l k == 10) = false := by rw [hc]; rfl
            have d10 : (rd l k != 10) = true := by rw [hc]; rfl
            have e13 : (rd l k == 13) = false := by rw [hc]; rfl
            have d13 : (rd l k != 13) = true := by rw [hc]; rfl
            have HE : Aside0 (passedGo false l = passedGo true (l.drop (k + 1))) := ⟨by rw [HF.out, HST.out, if_neg (by simp [isBl, e35, e32, e9, e10, e13])]; simp [e10, e35]⟩
            go_wp2
            go_round
            case rel => exact ⟨k + 1, true, by go_num, rfl, by omega, HE⟩
            case measure => simp [intOf]; omega
          | false =>
            have e35 : (rd l k == 35) = false := by rw [hc]; rfl
            have d35 : (rd l k != 35) = true := by rw [hc]; rfl
            have e32 : (rd l k == 32) = true := by rw [hc]; rfl
            have d32 : (rd l k != 32) = false := by rw [hc]; rfl
            have e9 : (rd l k == 9) = false := by rw [hc]; rfl
            have d9 : (rd l k != 9) = true := by rw [hc]; rfl
            have e10 : (rd l k == 10) = false := by rw [hc]; rfl
            have d10 : (rd l k != 10) = true := by rw [hc]; rfl
            have e13 : (rd l k == 13) = false := by rw [hc]; rfl
            have d13 : (rd l k != 13) = true := by rw [hc]; rfl
            have HE : Aside0 (passedGo false l = passedGo false (l.drop (k + 1))) := ⟨by rw [HF.out, HST.out, if_neg (by simp [isBl, e35, e32, e9, e10, e13])]; simp [e10, e35]⟩
            go_wp2
            go_round
            case rel => exact ⟨k + 1, false, by go_num, rfl, by omega, HE⟩
            case measure => simp [intOf]; omega
        · skip
          by_cases n9 : rd l k = 9
          · have hc := n9
            cases r with
            | true =>
              have e35 : (rd l k == 35) = false := by rw [hc]; rfl
              have d35 : (rd l k != 35) = true := by rw [hc]; rfl
              have e32 : (rd l k == 32) = false := by rw [hc]; rfl
              have d32 : (rd l k != 32) = true := by rw [hc]; rfl
              have e9 : (rd l k == 9) = true := by rw [hc]; rfl
              have d9 : (rd l k != 9) = false := by rw [hc]; rfl
              have e10 : (rd l k == 10) = false := by rw [hc]; rfl
              have d10 : (rd l k != 10) = true := by rw [hc]; rfl
              have e13 : (rd l k == 13) = false := by rw [hc]; rfl
              have d13 : (rd l k != 13) = true := by rw [hc]; rfl
              have HE : Aside0 (passedGo false l = passedGo true (l.drop (k + 1))) := ⟨by rw [HF.out, HST.out, if_neg (by simp [isBl, e35, e32, e9, e10, e13])]; simp [e10, e35]⟩
              go_wp2
              go_round
              case rel => exact ⟨k + 1, true, by go_num, rfl, by omega, HE⟩
              case measure => simp [intOf]; omega
            | false =>
              have e35 : (rd l k == 35) = false := by rw [hc]; rfl
              have d35 : (rd l k != 35) = true := by rw [hc]; rfl
              have e32 : (rd l k == 32) = false := by rw [hc]; rfl
              have d32 : (rd l k != 32) = true := by rw [hc]; rfl
              have e9 : (rd l k == 9) = true := by rw [hc]; rfl
              have d9 : (rd l k != 9) = false := by rw [hc]; rfl
              have e10 : (rd l k == 10) = false := by rw [hc]; rfl
              have d10 : (rd l k != 10) = true := by rw [hc]; rfl
              have e13 : (rd l k == 13) = false := by rw [hc]; rfl
              have d13 : (rd l k != 13) = true := by rw [hc]; rfl
              have HE : Aside0 (passedGo false l = passedGo false (l.drop (k + 1))) := ⟨by rw [HF.out, HST.out, if_neg (by simp [isBl, e35, e32, e9, e10, e13])]; simp [e10, e35]⟩
              go_wp2
              go_round
              case rel => exact ⟨k + 1, false, by go_num, rfl, by omega, HE⟩
              case measure => simp [intOf]; omega
          · skip
            by_cases n10 : rd l k = 10
            · have hc := n10
              cases r with
              | true =>
                have e35 : (rd l k == 35) = false := by rw [hc]; rfl
                have d35 : (rd l k != 35) = true := by rw [hc]; rfl
                have e32 : (rd l k == 32) = false := by rw [hc]; rfl
                have d32 : (rd l k != 32) = true := by rw [hc]; rfl
                have e9 : (rd l k == 9) = false := by rw [hc]; rfl
                have d9 : (rd l k != 9) = true := by rw [hc]; rfl
                have e10 : (rd l k == 10) = true := by rw [hc]; rfl
                have d10 : (rd l k != 10) = false := by rw [hc]; rfl
                have e13 : (rd l k == 13) = false := by rw [hc]; rfl
                have d13 : (rd l k != 13) = true := by rw [hc]; rfl
                have HE : Aside0 (passedGo false l = passedGo false (l.drop (k + 1))) := ⟨by rw [HF.out, HST.out, if_neg (by simp [isBl, e35, e32, e9, e10, e13])]; simp [e10]⟩
                go_wp2
                go_round
                case rel => exact ⟨k + 1, false, by go_num, rfl, by omega, HE⟩
                case measure => simp [intOf]; omega
              | false =>
                have e35 : (rd l k == 35) = false := by rw [hc]; rfl
                have d35 : (rd l k != 35) = true := by rw [hc]; rfl
                have e32 : (rd l k == 32) = false := by rw [hc]; rfl
                have d32 : (rd l k != 32) = true := by rw [hc]; rfl
                have e9 : (rd l k == 9) = false := by rw [hc]; rfl
                have d9 : (rd l k != 9) = true := by rw [hc]; rfl
                have e10 : (rd l k == 10) = true := by rw [hc]; rfl
                have d10 : (rd l k != 10) = false := by rw [hc]; rfl
                have e13 : (rd l k == 13) = false := by rw [hc]; rfl
                have d13 : (rd l k != 13) = true := by rw [hc]; rfl
                have HE : Aside0 (passedGo false l = passedGo false (l.drop (k + 1))) := ⟨by rw [HF.out, HST.out, if_neg (by simp [isBl, e35, e32, e9, e10, e13])]; simp [e10]⟩
                go_wp2
                go_round
                case rel => exact ⟨k + 1, false, by go_num, rfl, by omega, HE⟩
                case measure => simp [intOf]; omega
            · skip
              by_cases n13 : rd l k = 13
              · have hc := n13
                cases r with
                | true =>
                  have e35 : (rd l k == 35) = false := by rw [hc]; rfl
                  have d35 : (rd l k != 35) = true := by rw [hc]; rfl
                  have e32 : (rd l k == 32) = false := by rw [hc]; rfl
                  have d32 : (rd l k != 32) = true := by rw [hc]; rfl
                  have e9 : (rd l k == 9) = false := by rw [hc]; rfl
                  have d9 : (rd l k != 9) = true := by rw [hc]; rfl
                  have e10 : (rd l k == 10) = false := by rw [hc]; rfl
                  have d10 : (rd l k != 10) = true := by rw [hc]; rfl
                  have e13 : (rd l k == 13) = true := by rw [hc]; rfl
                  have d13 : (rd l k != 13) = false := by rw [hc]; rfl
                  have HE : Aside0 (passedGo false l = passedGo true (l.drop (k + 1))) := ⟨by rw [HF.out, HST.out, if_neg (by simp [isBl, e35, e32, e9, e10, e13])]; simp [e10, e35]⟩
                  go_wp2
                  go_round
                  case rel => exact ⟨k + 1, true, by go_num, rfl, by omega, HE⟩
                  case measure => simp [intOf]; omega
                | false =>
                  have e35 : (rd l k == 35) = false := by rw [hc]; rfl
                  have d35 : (rd l k != 35) = true := by rw [hc]; rfl
                  have e32 : (rd l k == 32) = false := by rw [hc]; rfl
                  have d32 : (rd l k != 32) = true := by rw [hc]; rfl
                  have e9 : (rd l k == 9) = false := by rw [hc]; rfl
                  have d9 : (rd l k != 9) = true := by rw [hc]; rfl
                  have e10 : (rd l k == 10) = false := by rw [hc]; rfl
                  have d10 : (rd l k != 10) = true := by rw [hc]; rfl
                  have e13 : (rd l k == 13) = true := by rw [hc]; rfl
                  have d13 : (rd l k != 13) = false := by rw [hc]; rfl
                  have HE : Aside0 (passedGo false l = passedGo false (l.drop (k + 1))) := ⟨by rw [HF.out, HST.out, if_neg (by simp [isBl, e35, e32, e9, e10, e13])]; simp [e10, e35]⟩
                  go_wp2
                  go_round
                  case rel => exact ⟨k + 1, false, by go_num, rfl, by omega, HE⟩
                  case measure => simp [intOf]; omega
              · skip
                cases r with
                | true =>
                  have e35 : (rd l k == 35) = false := beq_eq_false_iff_ne.2 n35
                  have d35 : (rd l k != 35) = true := bne_iff_ne.2 n35
                  have e32 : (rd l k == 32) = false := beq_eq_false_iff_ne.2 n32
                  have d32 : (rd l k != 32) = true := bne_iff_ne.2 n32
                  have e9 : (rd l k == 9) = false := beq_eq_false_iff_ne.2 n9
                  have d9 : (rd l k != 9) = true := bne_iff_ne.2 n9
                  have e10 : (rd l k == 10) = false := beq_eq_false_iff_ne.2 n10
                  have d10 : (rd l k != 10) = true := bne_iff_ne.2 n10
                  have e13 : (rd l k == 13) = false := beq_eq_false_iff_ne.2 n13
                  have d13 : (rd l k != 13) = true := bne_iff_ne.2 n13
                  have HE : Aside0 (passedGo false l = passedGo true (l.drop (k + 1))) := ⟨by rw [HF.out, HST.out, if_neg (by simp [isBl, e35, e32, e9, e10, e13])]; simp [e10, e35]⟩
                  go_wp2
                  go_round
                  case rel => exact ⟨k + 1, true, by go_num, rfl, by omega, HE⟩
                  case measure => simp [intOf]; omega
                | false =>
                  have e35 : (rd l k == 35) = false := beq_eq_false_iff_ne.2 n35
                  have d35 : (rd l k != 35) = true := bne_iff_ne.2 n35
                  have e32 : (rd l k == 32) = false := beq_eq_false_iff_ne.2 n32
                  have d32 : (rd l k != 32) = true := bne_iff_ne.2 n32
                  have e9 : (rd l k == 9) = false := beq_eq_false_iff_ne.2 n9
                  have d9 : (rd l k != 9) = true := bne_iff_ne.2 n9
                  have e10 : (rd l k == 10) = false := beq_eq_false_iff_ne.2 n10
                  have d10 : (rd l k != 10) = true := bne_iff_ne.2 n10
                  have e13 : (rd l k == 13) = false := beq_eq_false_iff_ne.2 n13
                  have d13 : (rd l k != 13) = true := bne_iff_ne.2 n13
                  have HE : Aside0 (passedGo false l = false) := ⟨by rw [HF.out, HST.out, if_pos (by simp [isBl, e35, e32, e9, e10, e13])]⟩
                  go_wp2
                  go_ret
                  exact ⟨ret_bool HE.out.symm, rfl⟩
    · have HE : Aside0 (passedGo false l = true) := ⟨by rw [HF.out, List.drop_of_length_le (by omega)]; rfl⟩
      go_wp2
      go_ret
      exact ⟨ret_bool HE.out.symm, rfl⟩
end Go.Proofs.Ytmingnhhmaclaaa.Given
