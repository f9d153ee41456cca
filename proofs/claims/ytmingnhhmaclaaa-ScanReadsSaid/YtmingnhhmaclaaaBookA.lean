/- (*book).keep: what it lays by. -/
import Derived.Test.YtmingnhhmaclaaaBookPlain
import Derived.Test.YtmingnhhmaclaaaPrint0
import Derived.Test.YtmingnhhmaclaaaPrint4
import Derived.Handy
namespace Go.Proofs.Ytmingnhhmaclaaa.Bk
open Go.RowKit Go.Proofs.YtmingnhhmaclaaaW.PrintWords Go.Proofs.YtmingnhhmaclaaaW.PrintLast Go.Proofs.YtmingnhhmaclaaaW.PrintMore Go.Proofs.Ytmingnhhmaclaaa.Print Go.Proofs.Ytmingnhhmaclaaa.Given
set_option linter.unusedVariables false
set_option linter.unusedSimpArgs false

theorem infoS : (Try.prog.info? 31).map (fun i => (i.zero, i.size, i.bytes)) = some (some (.slice none 0 0), 1, 24) := by kernel_rfl
theorem infoE : (Try.prog.info? 40).map (fun i => (i.zero, i.size, i.bytes)) = some (some (.agg #[(.int .i64 0), (.int .i64 0), (.int .i64 0), (.int .i64 0)]), 4, 32) := by kernel_rfl
/-- All blocks but the book's are as they were, by type. -/
def KX (w w1 : World) : Prop := ∀ t, t ≠ 31 → t ≠ 30 → KT t w w1
abbrev BkAt (w : World) (g base : Nat) (vo vw : Value) (fr : Int) (ol wl : List Value) : Prop := Book w g base 30 31 vo vw fr ol wl
set_option maxRecDepth 100000 in
set_option maxHeartbeats 2000000 in
theorem keep_any (gh base : Nat) (Aa Ab : Option Addr) (ca cb : Nat) (xs : List S40) (vo vw : Value) (fr : Int) (ol wl : List Value) (w : World) (hb : BkAt w gh base vo vw fr ol wl) (hra : Kd.R k40 40 w base Any (.slice Aa xs.length ca) xs) (hrb : Kd.R k40 40 w base Any (.slice Ab xs.length cb) xs)
    (hk : ∃ k, squintlaw01_same.f k xs xs = some true) (hlen : xs.length ≤ 100000000000) (hol : ol.length ≤ 1000000 ∧ wl.length ≤ 1000000) (hbase : base ≤ w.heap.size) :
    Calls Try.prog 15 #[.pointer (some ⟨gh, 0, none⟩), .slice Aa xs.length ca, .slice Ab xs.length cb] w fun e w' => e = .returned (.bool true) ∧ ∃ vo' vw' v2, BkAt w' gh base vo' vw' fr (ol ++ [.slice Aa xs.length ca]) (wl ++ [v2]) ∧ Kd.R k40 40 w' w.heap.size Any v2 xs ∧ Below base w w' ∧ KX w w' := by
  obtain ⟨ks, hks⟩ := hk
  have HBK0 := Aside0.mk hb
  have HRA := Aside0.mk hra
  have HRB := Aside0.mk hrb
  have HKS := Aside0.mk hks
  have HNL := Aside0.mk hol
  have HBS := Aside0.mk hbase
  have HTA : Aside0 ((([] : List S40).length + xs.length) * 32 ≤ 140737488355328) := ⟨by rw [List.length_nil]; omega⟩
  clear hb hra hrb hks hol hbase
  go_enter Try.func15, Try.ntmps15
  go_upto_region 3 with (first
    | ((with_reducible refine gate_dst (N := 8) rfl ?_); refine Kd.R_lit k40 (w0 := w) w.heap.size 40 ?hg (N := 8) ?hd (xs := ([] : List S40)) (inner := []) (ok := Any) (okp := Any) ?hr ?hp (fun _ hk => hk) trivial ?hb ?hs (by simp) ?_; (case hd => rfl); (case hg => rfl); (case hr => first | (go_simp; done) | (go_simp; rfl)); (case hp => exact (Reps.none _ _)); (case hb => exact Below.refl _ _); (case hs => exact Nat.le_refl _); intro v7 w7 ho hb _ _; have HM0 := Aside0.mk ho; have HB0 := Aside0.mk hb; clear ho hb)
    | ((with_reducible refine gate_builtin (b := .append) (xs := #[.tmp 9, .tmp 10]) rfl ?_); at_builtin; refine Kd.R_append_rows k40 (w0 := w) w.heap.size rfl (.tmp 9) (.tmp 10) 31 40 (.agg #[(.int .i64 0), (.int .i64 0), (.int .i64 0), (.int .i64 0)]) 32 rfl Try.underlying31 infoE rfl (by decide) (by omega) v7 [] xs _ _ _ Any (fun _ => False) rfl rfl ?aO ?aR (fun _ _ h => h) (fun _ h => h.elim) (fun _ _ => trivial) ?aB ?aS ?aL ?_; (case aR => exact (Kd.R_reads' (Kd.R_below HRB.out HB0.out)).2.2); (case aB => exact HB0.out); (case aO => exact HM0.out); (case aS => exact HB0.out.size); (case aL => exact HTA.out); intro v8 w8 ho hb _ _; obtain ⟨Am, nm, cm, rfl⟩ : ∃ A_ n_ c_, v8 = .slice A_ n_ c_ := (by obtain ⟨A_, c_, e_⟩ := Kd.R_slice ho; exact ⟨A_, _, c_, e_⟩); have HB := Aside0.mk hb; have HM : Aside0 (Kd.R k40 40 w8 w.heap.size Any (.slice Am nm cm) xs) := ⟨ho⟩; clear HB0 HM0 ho hb))
  have HSZ : Aside0 (base ≤ w8.heap.size) := ⟨Nat.le_trans HBS.out HB.out.size⟩
  have HBK : Aside0 (BkAt w8 gh base vo vw fr ol wl) := ⟨HBK0.out.kt (KT.below HB.out) (KT.below HB.out)⟩
  have HBA : Aside0 (Below base w w8) := ⟨HB.out.mono HBS.out⟩
  have HKA : Aside0 (KX w w8) := ⟨fun t _ _ => KT.below HB.out⟩
  clear HBK0 HB
  have z0 : w8.cell? ⟨gh, 0, none⟩ = some vo := (blk_cell HBK.out.blk 0).trans rfl
  go_upto_region 4 with ((with_reducible refine gate_builtin (b := .append) (xs := #[.tmp 16, .tmp 18]) rfl ?_); at_builtin; refine Kd.R_append (Kd.raw 1) (w0 := w8) base rfl (.tmp 16) (.tmp 18) 28 31 (.slice none 0 0) 24 rfl Try.underlying28 infoS rfl (by decide) (by omega) _ (ol.map (fun v => [v])) [.slice Aa xs.length ca] [.slice Aa xs.length ca] Any (fun _ => False) rfl rfl ?aP (fun _ hk => hk.elim) (fun _ _ => trivial) ?aO (Below.refl _ _) ?aS ?aL ?_; (case aP => exact raw_one _ rfl _ _ _); (case aO => exact HBK.out.ro); (case aS => exact HSZ.out); (case aL => rw [List.length_map]; have := HNL.out; omega); intro u1_ w11 ho hb hg hat; obtain ⟨Au, nu, cu, rfl⟩ : ∃ A_ n_ c_, u1_ = .slice A_ n_ c_ := (by obtain ⟨A_, c_, e_⟩ := Kd.R_slice ho; exact ⟨A_, _, c_, e_⟩); obtain ⟨c1_, f1_, hbk_, hkx_⟩ := Book.pushO HBK.out (by decide) ho hg hat; have HBK2 := Aside0.mk hbk_; have HKX2 := Aside0.mk hkx_; have HBB := Aside0.mk hb; have HRW_ := Aside0.mk hg; have HAT := Aside0.mk hat; clear HBK ho hb hg hat hbk_ hkx_)
  have n0_ : Aside0 (Below base w (w11.setCell ⟨gh, 0, none⟩ (.slice Au nu cu))) := ⟨below_setG (HBA.out.trans HBB.out) HBK2.out.low _ _⟩
  have n1_ : Aside0 (KX w (w11.setCell ⟨gh, 0, none⟩ (.slice Au nu cu))) := ⟨fun t h1 h2 => (HKA.out t h1 h2).trans (HKX2.out t h1 h2)⟩
  have n2_ : Aside0 (Kd.R k40 40 (w11.setCell ⟨gh, 0, none⟩ (.slice Au nu cu)) w.heap.size Any (.slice Am nm cm) xs) := ⟨R_kt rfl HM.out (HKX2.out 40 (by decide) (by decide))⟩
  generalize w11.setCell ⟨gh, 0, none⟩ (.slice Au nu cu) = w9 at n0_ n1_ n2_ HBK2 HKX2 ⊢
  clear HBA HKA HM HSZ HBB HRW_ HAT HKX2 c1_ f1_ z0
  have HBK := HBK2
  have HBA := n0_
  have HKA := n1_
  have HM := n2_
  have HSZ : Aside0 (base ≤ w9.heap.size) := ⟨Nat.le_trans HBS.out HBA.out.size⟩
  clear HBK2 n0_ n1_ n2_
  have z1 : w9.cell? ⟨gh, 1, none⟩ = some vw := (blk_cell HBK.out.blk 1).trans rfl
  go_upto_region 5 with ((with_reducible refine gate_builtin (b := .append) (xs := #[.tmp 26, .tmp 28]) rfl ?_); at_builtin; refine Kd.R_append (Kd.raw 1) (w0 := w9) base rfl (.tmp 26) (.tmp 28) 28 31 (.slice none 0 0) 24 rfl Try.underlying28 infoS rfl (by decide) (by omega) _ (wl.map (fun v => [v])) [.slice Am nm cm] [.slice Am nm cm] Any (fun _ => False) rfl rfl ?aP (fun _ hk => hk.elim) (fun _ _ => trivial) ?aO (Below.refl _ _) ?aS ?aL ?_; (case aP => exact raw_one _ rfl _ _ _); (case aO => exact HBK.out.rw); (case aS => exact HSZ.out); (case aL => rw [List.length_map]; have := HNL.out; omega); intro u1_ w12 ho hb hg hat; obtain ⟨Aw, nw, cw, rfl⟩ : ∃ A_ n_ c_, u1_ = .slice A_ n_ c_ := (by obtain ⟨A_, c_, e_⟩ := Kd.R_slice ho; exact ⟨A_, _, c_, e_⟩); obtain ⟨c1_, f1_, hbk_, hkx_⟩ := Book.pushW HBK.out (by decide) ho hg hat; have HBK2 := Aside0.mk hbk_; have HKX2 := Aside0.mk hkx_; have HBB := Aside0.mk hb; have HRW_ := Aside0.mk hg; have HAT := Aside0.mk hat; clear HBK ho hb hg hat hbk_ hkx_)
  have n0_ : Aside0 (Below base w (w12.setCell ⟨gh, 1, none⟩ (.slice Aw nw cw))) := ⟨below_setG (HBA.out.trans HBB.out) HBK2.out.low _ _⟩
  have n1_ : Aside0 (KX w (w12.setCell ⟨gh, 1, none⟩ (.slice Aw nw cw))) := ⟨fun t h1 h2 => (HKA.out t h1 h2).trans (HKX2.out t h1 h2)⟩
  have n2_ : Aside0 (Kd.R k40 40 (w12.setCell ⟨gh, 1, none⟩ (.slice Aw nw cw)) w.heap.size Any (.slice Am nm cm) xs) := ⟨R_kt rfl HM.out (HKX2.out 40 (by decide) (by decide))⟩
  generalize w12.setCell ⟨gh, 1, none⟩ (.slice Aw nw cw) = w10 at n0_ n1_ n2_ HBK2 HKX2 ⊢
  clear HBA HKA HM HSZ HBB HRW_ HAT HKX2 c1_ f1_ z1
  have HRA2 := Aside0.mk (Kd.R_reads' (R_kt rfl HRA.out (n1_.out 40 (by decide) (by decide))))
  have HRB2 := Aside0.mk (Kd.R_reads' (R_kt rfl HRB.out (n1_.out 40 (by decide) (by decide))))
  go_wp2_with (go_at_call 32; refine (squintlaw01_same.calls ks Aa ca xs Ab cb xs true _ HRA2.out.2.2 HRA2.out.2.1 HRB2.out.2.2 HRB2.out.2.1 HKS.out).mono ?_; rintro e w13 ⟨rfl, hd⟩; have HD := Aside0.mk hd.below; clear hd)
  go_returns
  exact ⟨rfl, _, _, _, HBK2.out.kt (KT.below HD.out) (KT.below HD.out), Kd.R_below n2_.out HD.out, n0_.out.trans (HD.out.mono (Nat.le_trans HBS.out n0_.out.size)), fun t h1 h2 => (n1_.out t h1 h2).trans (KT.below HD.out)⟩
end Go.Proofs.Ytmingnhhmaclaaa.Bk
