/- code.Parse at the text that the laws' heads show. -/
import Derived.Test.YtfkfgjmhcfagkaaDoorGivenO
namespace Go.Proofs.YtfkfgjmhcfagkaaDoor.Given
open Go.RowKit Go.Proofs.YtfkfgjmhcfagkaaDoorW.PrintWords Go.Proofs.YtfkfgjmhcfagkaaDoorW.PrintLast Go.Proofs.YtfkfgjmhcfagkaaDoorW.PrintMore Go.Proofs.YtfkfgjmhcfagkaaDoor.Print
set_option linter.unusedVariables false
set_option linter.unusedSimpArgs false

theorem cut_at (s a b : ByteArray) (f : Bool) (w : World) (hL : LW w) (hs : s.size < 4294967281) (h : Lib.cut s.data.toList [10] = (a.data.toList, b.data.toList, f)) :
    Calls Tryd.prog 48 #[.string s, .string ⟨#[10]⟩] w fun e w' => e = .returned (.tuple #[.string a, .string b, .bool f]) ∧ Below w.heap.size w w' := by
  obtain ⟨m, hm⟩ := hL.2.1
  refine (Tryd.strings_Cut s ⟨#[10]⟩ m w hs hm).mono ?_
  rintro e w' ⟨rfl, n, rfl⟩
  refine ⟨?_, pw_below_drewN (Below.refl _ _) n⟩
  rw [show (⟨#[10]⟩ : ByteArray).data.toList = [10] from rfl, h]
theorem sh_cut1 : Lib.cut ((⟨#[112, 114, 111, 103, 32, 48, 32, 48, 32, 48, 32, 48, 10, 114, 101, 116, 32, 49, 10]⟩ : ByteArray)).data.toList [10] = (((⟨#[112, 114, 111, 103, 32, 48, 32, 48, 32, 48, 32, 48]⟩ : ByteArray)).data.toList, ((⟨#[114, 101, 116, 32, 49, 10]⟩ : ByteArray)).data.toList, true) := by decide +kernel
theorem sh_cut2 : Lib.cut ((⟨#[114, 101, 116, 32, 49, 10]⟩ : ByteArray)).data.toList [10] = (((⟨#[114, 101, 116, 32, 49]⟩ : ByteArray)).data.toList, (⟨#[]⟩ : ByteArray).data.toList, true) := by decide +kernel
theorem sh_read1 : readOf (⟨#[112, 114, 111, 103, 32, 48, 32, 48, 32, 48, 32, 48]⟩ : ByteArray) = some (progWord, [0, 0, 0, 0]) := by kernel_rfl
theorem sh_read2 : readOf (⟨#[114, 101, 116, 32, 49]⟩ : ByteArray) = some (⟨#[114, 101, 116]⟩, [1]) := by kernel_rfl
theorem sh_one : oneOf ⟨#[114, 101, 116]⟩ [1] = none := by kernel_rfl
theorem unit_new {w : World} {base g : Nat} (h : w.heap[g]? = some (.cells #[.slice none 0 0, .slice none 0 0] 36 (0, 0))) : UnitAt w base g [] [] := ⟨_, _, fun _ => False, fun _ => False, h, Kd.S_nil _ _ _ _ _, Kd.S_nil _ _ _ _ _, fun _ h => h.elim⟩
theorem LW.fr {base g : Nat} {w w1 w2 : World} (h : LW w) (hb : Below w.heap.size w w1) (hf : Fr base g w1 w2) (h1 : w.heap.size ≤ base) (h2 : w.heap.size ≤ g) : LW w2 := h.below (hb.trans (hf.below h1 h2))
set_option maxRecDepth 100000 in
set_option maxHeartbeats 4000000 in
theorem parse_shown (w : World) (hL : LW w) : Calls Tryd.prog 26 #[.string (⟨#[112, 114, 111, 103, 32, 48, 32, 48, 32, 48, 32, 48, 10, 114, 101, 116, 32, 49, 10]⟩ : ByteArray)] w fun e w' => e = .returned (.tuple #[.agg #[.slice none 0 0, .slice none 0 0], .int .i64 2, .int .i64 80]) ∧ Below w.heap.size w w' := by
  have HL := Aside0.mk hL
  clear hL
  go_enter Tryd.func26, Tryd.ntmps26
  go_wp2_with (first
    | ((with_reducible refine gate_dst (N := 2) rfl ?_); refine box_event ?hg (N := 2) ?hd (cs := #[.slice none 0 0, .slice none 0 0]) (t := 36) ?hr ?_; (case hd => rfl); (case hg => rfl); (case hr => first | (go_simp; done) | (go_simp; rfl)); intro g2 hg w2 hbox hb; have BK2 := Aside0.mk hbox; have HB := Aside0.mk hb; have GE2 := Aside0.mk (Nat.le_of_eq hg.symm); clear hg hbox hb)
    | ((with_reducible refine gate_dst (N := 5) rfl ?_); refine box_event ?hg (N := 5) ?hd (cs := #[.slice none 0 0, .slice none 0 0]) (t := 36) ?hr ?_; (case hd => rfl); (case hg => rfl); (case hr => first | (go_simp; done) | (go_simp; rfl)); intro g5 hg w3 hbox hb; have BK5 := Aside0.mk hbox; have GE5 := Aside0.mk (show w.heap.size ≤ g5 by rw [hg]; exact HB.out.size); have NE := Aside0.mk (show g2 ≠ g5 by rw [hg]; exact Nat.ne_of_lt (blk_lt BK2.out)); have n1_ := Aside0.mk (blk_below BK2.out hb); have n3_ := Aside0.mk (below_then HB.out HB.out.size hb); clear BK2 HB; have BK2 := n1_; have HB := n3_; clear n1_ n3_ hg hbox hb))
  refine wp_loop_rounds 2 ?_
  rw [rounds_succ]
  have GB := Aside0.mk (blk_lt BK5.out)
  have G2 := Aside0.mk (blk_lt BK2.out)
  have SW := Aside0.mk HB.out.size
  go_wp2_with (first
    | (go_at_call 48; refine (cut_at _ (⟨#[112, 114, 111, 103, 32, 48, 32, 48, 32, 48, 32, 48]⟩ : ByteArray) (⟨#[114, 101, 116, 32, 49, 10]⟩ : ByteArray) true _ (HL.out.below HB.out) (by decide) sh_cut1).mono ?_; rintro e w4 ⟨rfl, hb⟩; have n1_ := Aside0.mk (blk_below BK2.out hb); have n2_ := Aside0.mk (blk_below BK5.out hb); have n3_ := Aside0.mk (below_then HB.out HB.out.size hb); have SZ := Aside0.mk hb.size; clear BK2 BK5 HB hb; have BK2 := n1_; have BK5 := n2_; have HB := n3_; clear n1_ n2_ n3_)
    | (go_at_call 49; refine (add_prog0 w3.heap.size g5 [] [] (⟨#[112, 114, 111, 103, 32, 48, 32, 48, 32, 48, 32, 48]⟩ : ByteArray) 0 0 0 _ (HL.out.below HB.out) (by decide) sh_read1 (unit_new BK5.out) GB.out SZ.out (by decide)).mono ?_; rintro e w5 ⟨rfl, hU, hF⟩; have n1_ := Aside0.mk ((hF.block g2 G2.out NE.out).trans BK2.out); have n3_ := Aside0.mk (HB.out.trans (hF.below SW.out GE5.out)); clear BK2 BK5 HB hU hF; have BK2 := n1_; have HB := n3_; clear n1_ n3_))
  rw [rounds_succ]
  clear GB SZ
  go_wp2_with (first
    | (go_at_call 48; refine (cut_at _ (⟨#[114, 101, 116, 32, 49]⟩ : ByteArray) ⟨#[]⟩ true _ (HL.out.below HB.out) (by decide) sh_cut2).mono ?_; rintro e w6 ⟨rfl, hb⟩; have n1_ := Aside0.mk (blk_below BK2.out hb); have n3_ := Aside0.mk (below_then HB.out HB.out.size hb); clear BK2 HB hb; have BK2 := n1_; have HB := n3_; clear n1_ n3_)
    | (go_at_call 49; refine (add_bad _ (⟨#[114, 101, 116, 32, 49]⟩ : ByteArray) _ _ _ (HL.out.below HB.out) (by decide) sh_read2 sh_one (by kernel_rfl) (by kernel_rfl)).mono ?_; rintro e w7 ⟨rfl, hb⟩; have n1_ := Aside0.mk (blk_below BK2.out hb); have n3_ := Aside0.mk (below_then HB.out HB.out.size hb); clear BK2 HB hb; have BK2 := n1_; have HB := n3_; clear n1_ n3_)
    | (refine wpList_store_row rfl 36 (.tmp 2) (.tmp 27) rfl g2 #[.slice none 0 0, .slice none 0 0] rfl rfl 36 _ BK2.out (by kernel_rfl) rfl (by kernel_rfl) ?_; have n9_ : Aside0 ((w7.setRow g2 #[.slice none 0 0, .slice none 0 0]).heap[g2]? = some (.cells #[.slice none 0 0, .slice none 0 0] 36 (0, 0))) := ⟨setRow_heap _ _ _ _ _ _ BK2.out⟩; have n8_ := Aside0.mk (below_setRow HB.out GE2.out #[.slice none 0 0, .slice none 0 0]); generalize w7.setRow g2 #[.slice none 0 0, .slice none 0 0] = w8 at n9_ n8_ ⊢))
  refine bodyPost_ret (results_ctt rfl _ _ g2 36 #[.slice none 0 0, .slice none 0 0] (0, 0) _ rfl n9_.out Tryd.underlying36 rfl (by kernel_rfl)) rfl ?_
  exact ⟨rfl, n8_.out⟩
end Go.Proofs.YtfkfgjmhcfagkaaDoor.Given
