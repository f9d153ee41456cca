/- The walks of CodeOps and CodeWords. -/
import Derived.Test.YtfkfgjmhcfagkaaDoorGivenQ
import Derived.Test.YtfkfgjmhcfagkaaDoorPlainA
namespace Go.Proofs.YtfkfgjmhcfagkaaDoor.Given
open Go.RowKit Go.Proofs.YtfkfgjmhcfagkaaDoorW.PrintWords Go.Proofs.YtfkfgjmhcfagkaaDoorW.PrintLast Go.Proofs.YtfkfgjmhcfagkaaDoorW.PrintMore Go.Proofs.YtfkfgjmhcfagkaaDoor.Print
set_option linter.unusedVariables false

theorem op_back : ∀ k : Fin 28, 1 ≤ k.val → opOf (nameAt k.val) = (k.val : Int) ∧ (nameOf (k.val : Int)) = nameAt k.val := by decide +kernel
set_option maxRecDepth 100000 in
theorem ops_walk (w : World) (hL : LW w) : Calls Tryd.prog 8 #[] w fun e w' => e = .returned (.bool true) ∧ Below w.heap.size w w' := by
  have HL := Aside0.mk hL
  clear hL
  go_enter Tryd.func8, Tryd.ntmps8
  go_wp2_with (go_at_call 9; refine (shown_true _ HL.out).mono ?_; rintro e w1 ⟨rfl, hb⟩; have HB := Aside0.mk hb; clear hb)
  go_loopw [1] (fun i wr => ∃ k : Nat, i = .int .i64 k ∧ 1 ≤ k ∧ k ≤ 28 ∧ Aside0 (Below w.heap.size w wr)) (fun i _ => 28 - (intOf i).toNat)
  case atStart => exact ⟨1, rfl, by omega, by omega, HB⟩
  case round =>
    clear HB
    obtain ⟨k, rfl, hk1, hk2, HB⟩ := hrel
    by_cases hlt : k < 28
    · obtain ⟨ho, hn⟩ := op_back ⟨k, hlt⟩ hk1
      have hq := (rows_at k hk1 (by omega)).1
      simp only at ho hn
      have HO := Aside0.mk ho
      have HN := Aside0.mk hn
      clear ho hn
      go_wp2_with (first
        | (go_at_call 10; refine (name_any k _).mono ?_; rw [HN.out]; rintro e w2 ⟨rfl, hb⟩; have n3_ := Aside0.mk (below_then HB.out HB.out.size hb); clear HB hb; have HB := n3_; clear n3_)
        | (go_at_call 11; refine (op_any _ _).mono ?_; rw [HO.out]; rintro e w3 ⟨rfl, hb⟩; have n3_ := Aside0.mk (below_then HB.out HB.out.size hb); clear HB hb; have HB := n3_; clear n3_))
      go_roundw
      case rel => exact ⟨k + 1, by go_num, by omega, by omega, HB⟩
      case measure => simp [intOf]; omega
    · obtain rfl : k = 28 := by omega
      go_wp2
      go_returns
      exact ⟨rfl, HB.out⟩
set_option maxRecDepth 100000 in
theorem words_walk (op : Int) (name : ByteArray) (w : World) (hL : LW w) : Calls Tryd.prog 3 #[.int .i64 op, .string name] w fun e w' => e = .returned (.bool true) ∧ Below w.heap.size w w' := by
  have HL := Aside0.mk hL
  clear hL
  go_enter Tryd.func3, Tryd.ntmps3
  go_wp2_with (first
    | (go_at_call 9; refine (shown_true _ HL.out).mono ?_; rintro e w1 ⟨rfl, hb⟩; have HB := Aside0.mk hb; clear hb)
    | (go_at_call 10; refine (name_any op _).mono ?_; rintro e w2 ⟨rfl, hb⟩; have n3_ := Aside0.mk (below_then HB.out HB.out.size hb); clear HB hb; have HB := n3_; clear n3_)
    | (go_at_call 11; refine (op_any _ _).mono ?_; rintro e w3 ⟨rfl, hb⟩; have n3_ := Aside0.mk (below_then HB.out HB.out.size hb); clear HB hb; have HB := n3_; clear n3_)
    | (go_at_call 12; refine (squintref08_Name.calls op _ _ (name_ref op)).mono ?_; rintro e w4 ⟨rfl, hb⟩; have n3_ := Aside0.mk (below_then HB.out HB.out.size hb); clear HB hb; have HB := n3_; clear n3_)
    | (go_at_call 13; refine (squintref08_Op.calls 28 name _ _ (op_ref name)).mono ?_; rintro e w5 ⟨rfl, hb⟩; have n3_ := Aside0.mk (below_then HB.out HB.out.size hb); clear HB hb; have HB := n3_; clear n3_))
  go_returns
  exact ⟨rfl, HB.out⟩
end Go.Proofs.YtfkfgjmhcfagkaaDoor.Given
