/- Lemmas for the claim (what no proof of it names is left out). -/
import Derived.Test.YtiapfhlipoomaaaDoorTpD
import Derived.Test.YtiapfhlipoomaaaDoorTpA
import Derived.Deep.Slices
import Derived.ChangeArms
import Derived.DataReads
import Derived.SizedLaws
import Derived.Below
import Derived.Test.YtiapfhlipoomaaaDoorTpC
import Derived.Test.YtiapfhlipoomaaaDoorRows
import Derived.Test.YtiapfhlipoomaaaDoorTpB
import Derived.Deep.DeepWitnessRowRef
import Derived.Deep.DeepHandedRow
import Derived.Lib.LaidIn
import Derived.Lib.LaidTab
import Derived.Stop.LaidErr
import Derived.PinnedBridge
import Derived.ProofKit
import Derived.MakeChecks
import Derived.LaidSub
section
namespace Go.Proofs.YtiapfhlipoomaaaDoor.Given
open Go.RowKit Go.Proofs.YtiapfhlipoomaaaDoorW.PrintWords Go.Proofs.YtiapfhlipoomaaaDoorW.PrintLast Go.Proofs.YtiapfhlipoomaaaDoorW.PrintMore Go.Proofs.YtiapfhlipoomaaaDoor.Print
set_option linter.unusedVariables false
set_option linter.unusedSimpArgs false
theorem Lent.setRow {w : World} {base g : Nat} {l : List S24} {extra : List (List Value)} {v0 v1 : Value} {cs0 cs' : Array Value} (h : Lent w base l extra v0 v1) (hb : w.heap[g]? = some (.cells cs0 33 (0, 0))) : Lent (w.setRow g cs') base l extra v0 v1 := by
  obtain ⟨rows0, rows1, l0, l1, h0, h1, h2⟩ := h
  exact ⟨rows0, rows1, l0, l1, Kd.R_mono (R_setRow h0 hb (by decide)) (fun _ _ => trivial), Kd.R_mono (R_setRow h1 hb (by decide)) (fun _ _ => trivial), fun j x hx => (h2 j x hx).kt (KT.setRow hb (by decide))⟩
theorem evz_small {l : List S24} (h : evz l ≤ 2147483647) : l.length ≤ 1000000000 ∧ ∀ x ∈ l, x.f7.length ≤ 1000000000 := by
  have key : ∀ (l : List S24), ∀ x ∈ l, x.f7.length * 21 ≤ evz l := by
    intro l
    induction l with
    | nil => intro x hx; cases hx
    | cons y l ih =>
      intro x hx
      unfold evz
      rcases List.mem_cons.1 hx with rfl | hx
      · omega
      · have := ih x hx
        omega
  refine ⟨by have := evz_len l; omega, fun x hx => by have := key l x hx; omega⟩
set_option maxRecDepth 100000 in
set_option maxHeartbeats 8000000 in
theorem prints_walk (A B : Option Addr) (c d : Nat) (l m : List S24) (w : World) (hr : Kd.C k24 w A l.length l) (hs : Kd.C k24 w B m.length m) (hc : l.length ≤ c) (hd : m.length ≤ d) (hL : LW w) (hgl : ∀ x ∈ l, rngX x) (hgm : ∀ x ∈ m, rngX x)
    (hl : l.length ≤ 4611686018427387904) (hm : m.length ≤ 4611686018427387904) :
    Calls Tryd.prog 4 #[.slice A l.length c, .slice B m.length d] w fun e w' => e = .returned (.bool true) ∧ Below w.heap.size w w' := by
  have hu24 := Tryd.underlying24
  have hu33 := Tryd.underlying33
  obtain ⟨bl, hbl⟩ := beyond_says l hl
  obtain ⟨bm, hbm⟩ := beyond_says m hm
  have Rl := Aside0.mk hr
  have Rm := Aside0.mk hs
  have Cl := Aside0.mk hc
  have Cm := Aside0.mk hd
  have HL := Aside0.mk hL
  have Gl := Aside0.mk hgl
  have Gm := Aside0.mk hgm
  have HB := Aside0.mk (Below.refl w.heap.size w)
  have M1 := Aside0.mk True.intro
  clear hr hs hc hd hL hgl hgm hl hm
  by_cases hzl : evz l ≤ 2147483647
  rotate_left
  · rw [decide_eq_true hzl] at hbl
    have Kl := Aside0.mk hbl
    clear hbl hbm hzl
    go_enter Tryd.func4, Tryd.ntmps4
    go_wp2_with (first
      | (go_at_call 12; refine (squintlaw18_beyond.calls bl A c l _ _ (Kd.C_below Rl.out HB.out) Cl.out Kl.out).mono ?_; rintro e w1 ⟨rfl, hd⟩; have n0_ := Aside0.mk (below_step HB.out hd.below); clear HB; have HB := n0_; clear n0_; clear hd))
    go_returns
    exact ⟨rfl, HB.out⟩
  rw [decide_eq_false (fun h => h hzl)] at hbl
  have Kl := Aside0.mk hbl
  clear hbl
  by_cases hzm : evz m ≤ 2147483647
  rotate_left
  · rw [decide_eq_true hzm] at hbm
    have Km := Aside0.mk hbm
    clear hbm hzm hzl
    go_enter Tryd.func4, Tryd.ntmps4
    go_wp2_with (first
      | (go_at_call 12; clear M1; refine (squintlaw18_beyond.calls bl A c l _ _ (Kd.C_below Rl.out HB.out) Cl.out Kl.out).mono ?_; rintro e w1 ⟨rfl, hd⟩; have n0_ := Aside0.mk (below_step HB.out hd.below); clear HB; have HB := n0_; clear n0_; clear hd)
      | (go_at_call 12; refine (squintlaw18_beyond.calls bm B d m _ _ (Kd.C_below Rm.out HB.out) Cm.out Km.out).mono ?_; rintro e w1 ⟨rfl, hd⟩; have n0_ := Aside0.mk (below_step HB.out hd.below); clear HB; have HB := n0_; clear n0_; clear hd))
    go_returns
    exact ⟨rfl, HB.out⟩
  · rw [decide_eq_false (fun h => h hzm)] at hbm
    have Km := Aside0.mk hbm
    clear hbm
    have Ll : Aside0 (l.length ≤ 1000000000 ∧ ∀ x ∈ l, x.f7.length ≤ 1000000000) := ⟨evz_small hzl⟩
    have Zl : Aside0 ((textOf l).size ≤ 1099511627776) := ⟨by have := text_evz l Gl.out; omega⟩
    obtain ⟨kl, hkl⟩ := ref_print l (fun x hx => ⟨Gl.out x hx, by have := Ll.out.2 x hx; omega⟩) Zl.out (by have := Ll.out.1; omega)
    obtain ⟨tl, el, hpl⟩ : ∃ t e, printOf l = (t, e) := ⟨_, _, rfl⟩
    rw [hpl] at hkl
    have Ql := Aside0.mk hkl
    have Pl := Aside0.mk hpl
    clear hkl hpl hzl
    have Lm : Aside0 (m.length ≤ 1000000000 ∧ ∀ x ∈ m, x.f7.length ≤ 1000000000) := ⟨evz_small hzm⟩
    have Zm : Aside0 ((textOf m).size ≤ 1099511627776) := ⟨by have := text_evz m Gm.out; omega⟩
    obtain ⟨km, hkm⟩ := ref_print m (fun x hx => ⟨Gm.out x hx, by have := Lm.out.2 x hx; omega⟩) Zm.out (by have := Lm.out.1; omega)
    obtain ⟨tm, em, hpm⟩ : ∃ t e, printOf m = (t, e) := ⟨_, _, rfl⟩
    rw [hpm] at hkm
    have Qm := Aside0.mk hkm
    have Pm := Aside0.mk hpm
    clear hkm hpm hzm
    go_enter Tryd.func4, Tryd.ntmps4
    go_wp2_with (first
      | (go_at_call 12; clear M1; refine (squintlaw18_beyond.calls bl A c l _ _ (Kd.C_below Rl.out HB.out) Cl.out Kl.out).mono ?_; rintro e w1 ⟨rfl, hd⟩; have n0_ := Aside0.mk (below_step HB.out hd.below); clear HB; have HB := n0_; clear n0_; clear hd)
      | (go_at_call 12; refine (squintlaw18_beyond.calls bm B d m _ _ (Kd.C_below Rm.out HB.out) Cm.out Km.out).mono ?_; rintro e w1 ⟨rfl, hd⟩; have n0_ := Aside0.mk (below_step HB.out hd.below); clear HB; have HB := n0_; clear n0_; clear hd)
      | (go_at_call 9; refine (shown_true _ (HL.out.below HB.out)).mono ?_; rintro e w2 ⟨rfl, hb⟩; have n0_ := Aside0.mk (below_step HB.out hb); clear HB; have HB := n0_; clear n0_; clear hb))
    go_loopw [5] (fun v5 wr => ∃ k : Nat, v5 = .int .i64 k ∧ k ≤ 3 ∧ Aside0 (Below w.heap.size w wr)) (fun v5 _ => 3 - (intOf v5).toNat)
    case atStart => exact ⟨0, rfl, by omega, HB⟩
    case round =>
      clear HB
      obtain ⟨k, rfl, hk, HB⟩ := hrel
      obtain ⟨wo, rfl⟩ : ∃ wo : World, wo = wr := ⟨_, rfl⟩
      by_cases hk3 : k < 3
      · by_cases hk1 : k = 1
        · have hq : ((k : Int) == 1) = true := by simp; omega
          have HK1 := Aside0.mk hk1
          clear hk1
          go_wp2_with (first
            | (go_at_call 13; refine (lend_any B d m _ (Kd.C_below Rm.out HB.out) Lm.out.1 Lm.out.2).mono ?_; rintro e w2 ⟨v0, v1, rfl, hl, hb⟩; obtain ⟨ga, ca, A1, c1, rfl, rfl, hca, _⟩ := lent_form hl; have HLT := Aside0.mk hl; have HE := Aside0.mk hb; have HCA := Aside0.mk (show m.length ≤ ca by omega); have hca2 : m.length ≤ ca := HCA.out; clear hl hb hca)
            | ((with_reducible refine gate_dst (N := 7) rfl ?_); refine box_event ?hg (N := 7) ?hd (cs := #[.slice none 0 0, .slice none 0 0]) (t := 33) ?hr ?_; (case hd => rfl); (case hg => rfl); (case hr => first | (go_simp; done) | (go_simp; rfl)); intro g7 hg w3 hbox hb; have GE := Aside0.mk (show wo.heap.size ≤ g7 by rw [hg]; exact HE.out.size); have n0_ := Aside0.mk (HE.out.trans (hb.mono HE.out.size)); have n1_ := Aside0.mk (HLT.out.below hb); clear HE HLT; have HE := n0_; have HLT := n1_; have BX := Aside0.mk hbox; clear n0_ n1_ hbox hb hg)
            | (refine wpList_store_row rfl 33 (.tmp 7) (.tmp 29) rfl g7 #[(.slice (some ⟨ga, 0, none⟩) (m.length + 1) ca), (.slice A1 m.length c1)] rfl rfl 33 _ BX.out (by kernel_rfl) rfl (by kernel_rfl) ?_; have n0_ : Aside0 ((w3.setRow g7 #[(.slice (some ⟨ga, 0, none⟩) (m.length + 1) ca), (.slice A1 m.length c1)]).heap[g7]? = some (.cells #[(.slice (some ⟨ga, 0, none⟩) (m.length + 1) ca), (.slice A1 m.length c1)] 33 (0, 0))) := ⟨setRow_heap _ _ _ _ _ _ BX.out⟩; have n1_ := Aside0.mk (below_setRow HE.out GE.out #[(.slice (some ⟨ga, 0, none⟩) (m.length + 1) ca), (.slice A1 m.length c1)]); have n2_ := Aside0.mk (HLT.out.setRow BX.out (cs' := #[(.slice (some ⟨ga, 0, none⟩) (m.length + 1) ca), (.slice A1 m.length c1)])); generalize w3.setRow g7 #[(.slice (some ⟨ga, 0, none⟩) (m.length + 1) ca), (.slice A1 m.length c1)] = w4 at n0_ n1_ n2_ ⊢; clear BX HE HLT; have BX := n0_; have HE := n1_; have HLT := n2_; clear n0_ n1_ n2_; have x0 : w4.cell? ⟨g7, 0, none⟩ = some (.slice (some ⟨ga, 0, none⟩) (m.length + 1) ca) := (blk_cell BX.out 0).trans rfl)
            | (go_at_call 14; refine (print_any (some ⟨ga, 0, none⟩) ca m _ (lent_C HLT.out) (HL.out.below (HB.out.trans (HE.out.mono HB.out.size))) Gm.out Zm.out).mono ?_; rw [Pm.out]; rintro e w5 ⟨rfl, hb⟩; clear x0; have n0_ := Aside0.mk (HE.out.trans (hb.mono HE.out.size)); have n1_ := Aside0.mk (HLT.out.below hb); have n2_ := Aside0.mk (blk_below BX.out hb); clear HE HLT BX hb; have HE := n0_; have HLT := n1_; have BX := n2_; clear n0_ n1_ n2_)
            | (go_at_call 15; refine (squintref18_Print.calls km B d m tm em _ (Kd.C_below Rm.out (HB.out.trans (HE.out.mono HB.out.size))) Cm.out Qm.out).mono ?_; rintro e w6 ⟨rfl, hb⟩; have n0_ := Aside0.mk (HE.out.trans (hb.mono HE.out.size)); have n1_ := Aside0.mk (HLT.out.below hb); have n2_ := Aside0.mk (blk_below BX.out hb); clear HE HLT BX hb; have HE := n0_; have HLT := n1_; have BX := n2_; clear n0_ n1_ n2_; have x0 : w6.cell? ⟨g7, 0, none⟩ = some (.slice (some ⟨ga, 0, none⟩) (m.length + 1) ca) := (blk_cell BX.out 0).trans rfl; have x1 : w6.cell? ⟨g7, 1, none⟩ = some (.slice A1 m.length c1) := (blk_cell BX.out 1).trans rfl)
            | (refine wpList_load_row rfl 33 (.tmp 7) rfl g7 rfl 33 #[(.slice (some ⟨ga, 0, none⟩) (m.length + 1) ca), (.slice A1 m.length c1)] (0, 0) _ BX.out Tryd.underlying33 rfl (by kernel_rfl) ?_)
            | (go_at_call 16; refine (still_any B d m wo.heap.size _ _ _ (Kd.C_below Rm.out (HB.out.trans (HE.out.mono HB.out.size))) Cm.out HLT.out Lm.out.1 Lm.out.2).mono ?_; rintro e w7 ⟨rfl, hb⟩; clear x0 x1; have n0_ := Aside0.mk (HE.out.trans (hb.mono HE.out.size)); have n1_ := Aside0.mk (HLT.out.below hb); have n2_ := Aside0.mk (blk_below BX.out hb); clear HE HLT BX hb; have HE := n0_; have HLT := n1_; have BX := n2_; clear n0_ n1_ n2_)
            | (go_at_call 17; refine (wipe_any m wo.heap.size _ _ _ HLT.out HE.out.size Lm.out.1).mono ?_; rintro e w8 ⟨rfl, hb⟩; have n0_ := Aside0.mk (HE.out.trans hb); clear HE HLT BX hb; have HE := n0_; clear n0_))
          go_roundw
          case rel => exact ⟨k + 1, by go_num, by omega, ⟨HB.out.trans (HE.out.mono HB.out.size)⟩⟩
          case measure => simp [intOf]; omega
        · have hq : ((k : Int) == 1) = false := by simp; omega
          clear hk1
          go_wp2_with (first
            | (go_at_call 13; refine (lend_any A c l _ (Kd.C_below Rl.out HB.out) Ll.out.1 Ll.out.2).mono ?_; rintro e w2 ⟨v0, v1, rfl, hl, hb⟩; obtain ⟨ga, ca, A1, c1, rfl, rfl, hca, _⟩ := lent_form hl; have HLT := Aside0.mk hl; have HE := Aside0.mk hb; have HCA := Aside0.mk (show l.length ≤ ca by omega); have hca2 : l.length ≤ ca := HCA.out; clear hl hb hca)
            | ((with_reducible refine gate_dst (N := 7) rfl ?_); refine box_event ?hg (N := 7) ?hd (cs := #[.slice none 0 0, .slice none 0 0]) (t := 33) ?hr ?_; (case hd => rfl); (case hg => rfl); (case hr => first | (go_simp; done) | (go_simp; rfl)); intro g7 hg w3 hbox hb; have GE := Aside0.mk (show wo.heap.size ≤ g7 by rw [hg]; exact HE.out.size); have n0_ := Aside0.mk (HE.out.trans (hb.mono HE.out.size)); have n1_ := Aside0.mk (HLT.out.below hb); clear HE HLT; have HE := n0_; have HLT := n1_; have BX := Aside0.mk hbox; clear n0_ n1_ hbox hb hg)
            | (refine wpList_store_row rfl 33 (.tmp 7) (.tmp 29) rfl g7 #[(.slice (some ⟨ga, 0, none⟩) (l.length + 1) ca), (.slice A1 l.length c1)] rfl rfl 33 _ BX.out (by kernel_rfl) rfl (by kernel_rfl) ?_; have n0_ : Aside0 ((w3.setRow g7 #[(.slice (some ⟨ga, 0, none⟩) (l.length + 1) ca), (.slice A1 l.length c1)]).heap[g7]? = some (.cells #[(.slice (some ⟨ga, 0, none⟩) (l.length + 1) ca), (.slice A1 l.length c1)] 33 (0, 0))) := ⟨setRow_heap _ _ _ _ _ _ BX.out⟩; have n1_ := Aside0.mk (below_setRow HE.out GE.out #[(.slice (some ⟨ga, 0, none⟩) (l.length + 1) ca), (.slice A1 l.length c1)]); have n2_ := Aside0.mk (HLT.out.setRow BX.out (cs' := #[(.slice (some ⟨ga, 0, none⟩) (l.length + 1) ca), (.slice A1 l.length c1)])); generalize w3.setRow g7 #[(.slice (some ⟨ga, 0, none⟩) (l.length + 1) ca), (.slice A1 l.length c1)] = w4 at n0_ n1_ n2_ ⊢; clear BX HE HLT; have BX := n0_; have HE := n1_; have HLT := n2_; clear n0_ n1_ n2_; have x0 : w4.cell? ⟨g7, 0, none⟩ = some (.slice (some ⟨ga, 0, none⟩) (l.length + 1) ca) := (blk_cell BX.out 0).trans rfl)
            | (go_at_call 14; refine (print_any (some ⟨ga, 0, none⟩) ca l _ (lent_C HLT.out) (HL.out.below (HB.out.trans (HE.out.mono HB.out.size))) Gl.out Zl.out).mono ?_; rw [Pl.out]; rintro e w5 ⟨rfl, hb⟩; clear x0; have n0_ := Aside0.mk (HE.out.trans (hb.mono HE.out.size)); have n1_ := Aside0.mk (HLT.out.below hb); have n2_ := Aside0.mk (blk_below BX.out hb); clear HE HLT BX hb; have HE := n0_; have HLT := n1_; have BX := n2_; clear n0_ n1_ n2_)
            | (go_at_call 15; refine (squintref18_Print.calls kl A c l tl el _ (Kd.C_below Rl.out (HB.out.trans (HE.out.mono HB.out.size))) Cl.out Ql.out).mono ?_; rintro e w6 ⟨rfl, hb⟩; have n0_ := Aside0.mk (HE.out.trans (hb.mono HE.out.size)); have n1_ := Aside0.mk (HLT.out.below hb); have n2_ := Aside0.mk (blk_below BX.out hb); clear HE HLT BX hb; have HE := n0_; have HLT := n1_; have BX := n2_; clear n0_ n1_ n2_; have x0 : w6.cell? ⟨g7, 0, none⟩ = some (.slice (some ⟨ga, 0, none⟩) (l.length + 1) ca) := (blk_cell BX.out 0).trans rfl; have x1 : w6.cell? ⟨g7, 1, none⟩ = some (.slice A1 l.length c1) := (blk_cell BX.out 1).trans rfl)
            | (refine wpList_load_row rfl 33 (.tmp 7) rfl g7 rfl 33 #[(.slice (some ⟨ga, 0, none⟩) (l.length + 1) ca), (.slice A1 l.length c1)] (0, 0) _ BX.out Tryd.underlying33 rfl (by kernel_rfl) ?_)
            | (go_at_call 16; refine (still_any A c l wo.heap.size _ _ _ (Kd.C_below Rl.out (HB.out.trans (HE.out.mono HB.out.size))) Cl.out HLT.out Ll.out.1 Ll.out.2).mono ?_; rintro e w7 ⟨rfl, hb⟩; clear x0 x1; have n0_ := Aside0.mk (HE.out.trans (hb.mono HE.out.size)); have n1_ := Aside0.mk (HLT.out.below hb); have n2_ := Aside0.mk (blk_below BX.out hb); clear HE HLT BX hb; have HE := n0_; have HLT := n1_; have BX := n2_; clear n0_ n1_ n2_)
            | (go_at_call 17; refine (wipe_any l wo.heap.size _ _ _ HLT.out HE.out.size Ll.out.1).mono ?_; rintro e w8 ⟨rfl, hb⟩; have n0_ := Aside0.mk (HE.out.trans hb); clear HE HLT BX hb; have HE := n0_; clear n0_))
          go_roundw
          case rel => exact ⟨k + 1, by go_num, by omega, ⟨HB.out.trans (HE.out.mono HB.out.size)⟩⟩
          case measure => simp [intOf]; omega
      · obtain rfl : k = 3 := by omega
        go_wp2_with (fail)
        go_returns
        exact ⟨rfl, HB.out⟩
end Go.Proofs.YtiapfhlipoomaaaDoor.Given
end
section
namespace Go.Proofs.YtiapfhlipoomaaaDoor.Opens
open Go.RowKit Go.Proofs.YtiapfhlipoomaaaDoorW.PrintWords
def Opens {α : Type} (P : Program) (W : World) (t : TypeId) (d : Kd α) (wf : α → Prop) : Prop :=
  ∀ (H : Type) (enc : TypeId × Value → H) (base : Nat) (sp : Nat → Bool) (held : Bool) (fuel : Nat) (cs : List Value) (x : DataW H × List MemPlace),
    DataW.trod enc P W base sp held fuel t cs = some x → (∀ k, k ∈ x.1.weights P t → k ≤ reachBytes) → ∃ a, d.K W a cs ∧ wf a
variable {P : Program} {W : World} {t e : TypeId}
theorem opens_int {k : IntKind} (ht : P.underlying t = some (.int k)) : Opens P W t (Kd.int k) (fun n => (Lit.int k n).wf = true) := by
  intro H enc base sp held fuel cs x h hw
  obtain ⟨n, rfl, rfl, hn⟩ := DataW.trod_int ht h
  exact ⟨n, rfl, hn⟩
theorem mem_weightsAll {H : Type} {P : Program} {e : TypeId} {d : DataW H} {k : Nat} : ∀ {l : List (DataW H)}, d ∈ l → k ∈ d.weights P e → k ∈ DataW.weightsAll P e l
  | [], h, _ => by cases h
  | a :: l, h, hk => by
    unfold DataW.weightsAll
    rcases List.mem_cons.1 h with rfl | h
    · exact List.mem_append_left _ hk
    · exact List.mem_append_right _ (mem_weightsAll h hk)
theorem exists_list {α : Type} {p : Nat → α → Prop} : ∀ (n : Nat), (∀ i, i < n → ∃ a, p i a) → ∃ l : List α, l.length = n ∧ ∀ i a, l[i]? = some a → p i a
  | 0, _ => ⟨[], rfl, fun i a h => by simp at h⟩
  | n + 1, h => by
    obtain ⟨l, hl, hp⟩ := exists_list n (fun i hi => h i (Nat.lt_succ_of_lt hi))
    obtain ⟨a, ha⟩ := h n (Nat.lt_succ_self n)
    refine ⟨l ++ [a], by simp [hl], fun i b hb => ?_⟩
    by_cases hi : i < l.length
    · rw [List.getElem?_append_left hi] at hb
      exact hp i b hb
    · rw [List.getElem?_append_right (by omega)] at hb
      have hi2 : i - l.length = 0 := by
        cases hq : i - l.length with
        | zero => rfl
        | succ m => rw [hq] at hb; simp at hb
      rw [hi2] at hb
      injection hb with hb
      subst hb
      have : i = n := by omega
      subst this
      exact ha
theorem opens_slice {α : Type} {d : Kd α} {wf : α → Prop} {bytes : Nat} (ht : P.underlying t = some (.slice e)) (hc : P.cellsOf e = d.sz) (hb : P.bytesOf e = bytes) (he : Opens P W e d wf) :
    Opens P W t (Kd.slice e d) (fun xs => (∀ x ∈ xs, wf x) ∧ xs.length * bytes ≤ 140737488351232) := by
  intro H enc base sp held fuel cs x h hw
  rcases Deep.open_slice ht h with ⟨rfl, rfl⟩ | ⟨a, len, cap, m, n, D, Pl, rfl, hba, hl, hm, hmm, rfl, hel⟩
  · exact ⟨[], ⟨none, 0, rfl, Nat.le_refl _, Kd.C_nil _ _⟩, fun x hx => (by cases hx), by simp⟩
  have hlm : len ≤ m := by rw [hmm]; split <;> omega
  have hW : ∀ i, i < len → ∀ k, k ∈ (D i).weights P e → k ≤ reachBytes := by
    intro i hi k hk
    refine hw k ?_
    unfold DataW.weights
    rw [ht]
    refine List.mem_cons_of_mem _ (List.mem_append_left _ ?_)
    exact mem_weightsAll (List.mem_map.2 ⟨i, List.mem_range.2 hi, rfl⟩) hk
  obtain ⟨xs, hxl, hxs⟩ := exists_list (p := fun i (a' : α) => wf a' ∧ ∃ cs', W.cells? base (a.add (i * P.cellsOf e)) (P.cellsOf e) = some cs' ∧ d.K W a' cs') len (fun i hi => by
    obtain ⟨cs', h1, h2⟩ := hel i (by omega)
    obtain ⟨a', hk, hwf⟩ := he H enc base sp held n cs' _ h2 (hW i hi)
    exact ⟨a', hwf, cs', h1, hk⟩)
  refine ⟨xs, ⟨some a, cap, by rw [hxl], by rw [hxl]; exact hl, ?_⟩, fun x hx => ?_, ?_⟩
  · refine ⟨rfl, ?_, fun _ => ⟨a, rfl, fun j p hj => ?_⟩⟩
    · rw [hxl]
      exact Nat.le_trans hl (Nat.le_trans hm (by decide))
    · obtain ⟨_, cs', h1, hk⟩ := hxs j p hj
      refine ⟨cs', d.K_len hk, hk, fun i u hu => ?_⟩
      obtain ⟨_, hlen, hcell⟩ := World.cells?_some h1
      rw [hc] at hcell hlen
      have hi : i < cs'.length := (List.getElem?_eq_some_iff.1 hu).1
      have := hcell i (by omega)
      rw [Deep.add_add] at this
      rw [this, hu]
  · obtain ⟨i, hi⟩ := List.mem_iff_getElem?.1 hx
    exact (hxs i x hi).1
  · have := hw ((((List.range len).map D).length + ((List.range (m - len)).map fun j => D (len + j)).length) * P.bytesOf e) (by
      unfold DataW.weights
      rw [ht]
      exact List.mem_cons_self)
    simp only [List.length_map, List.length_range] at this
    rw [hb] at this
    rw [hxl]
    exact Nat.le_trans (Nat.mul_le_mul_right _ (by omega)) this
end Go.Proofs.YtiapfhlipoomaaaDoor.Opens
end
section
namespace Go.Proofs.YtiapfhlipoomaaaDoor.Given
open Go.RowKit Go.Proofs.YtiapfhlipoomaaaDoorW.PrintWords Go.Proofs.YtiapfhlipoomaaaDoor.Print
set_option linter.unusedVariables false
set_option linter.unusedSimpArgs false
theorem len8 {α : Type} {l : List α} (h : l.length = 8) : ∃ a b c d e f g i, l = [a, b, c, d, e, f, g, i] := by
  match l, h with
  | [a, b, c, d, e, f, g, i], _ => exact ⟨a, b, c, d, e, f, g, i, rfl⟩
def wfN (n : Int) : Prop := (Lit.int .i64 n).wf = true
def wfL (l : List Int) : Prop := (∀ n ∈ l, wfN n) ∧ l.length * 8 ≤ 140737488351232
theorem wfN_range {n : Int} (h : wfN n) : -9223372036854775808 ≤ n ∧ n ≤ 9223372036854775807 := by
  have h' : (decide (-9223372036854775808 ≤ n) && decide (n ≤ 9223372036854775807)) = true := h
  simpa using h'
theorem opens3 (W : World) : Opens.Opens Tryd.prog W 3 (Kd.int .i64) wfN := Opens.opens_int Tryd.underlying3
theorem opens22 (W : World) : Opens.Opens Tryd.prog W 22 (Kd.slice 3 (Kd.int .i64)) wfL := Opens.opens_slice Tryd.underlying22 (by kernel_rfl) (by kernel_rfl) (opens3 W)
theorem opens24 (W : World) : Opens.Opens Tryd.prog W 24 k24 (fun x => (wfN) x.f0 ∧ (wfN) x.f1 ∧ (wfN) x.f2 ∧ (wfN) x.f3 ∧ (wfN) x.f4 ∧ (wfN) x.f5 ∧ (wfN) x.f6 ∧ (wfL) x.f7) := by
  intro H enc base sp held fuel cs x h hw
  obtain ⟨xs, n, _, rfl, hl, hlen, hf⟩ := DataW.trod_struct Tryd.underlying24 h
  rw [show Tryd.prog.cellsOf 24 = 8 by kernel_rfl] at hl
  obtain ⟨c0, c1, c2, c3, c4, c5, c6, c7, rfl⟩ := len8 hl
  obtain ⟨y0, y1, y2, y3, y4, y5, y6, y7, rfl⟩ := len8 (show xs.length = 8 from hlen)
  have h0 : DataW.trod enc Tryd.prog W base sp held n 3 [c0] = some y0 := by
        have := hf 0 _ rfl
        simpa [show Tryd.prog.cellsOf 3 = 1 by kernel_rfl] using this
  have h1 : DataW.trod enc Tryd.prog W base sp held n 3 [c1] = some y1 := by
        have := hf 1 _ rfl
        simpa [show Tryd.prog.cellsOf 3 = 1 by kernel_rfl] using this
  have h2 : DataW.trod enc Tryd.prog W base sp held n 3 [c2] = some y2 := by
        have := hf 2 _ rfl
        simpa [show Tryd.prog.cellsOf 3 = 1 by kernel_rfl] using this
  have h3 : DataW.trod enc Tryd.prog W base sp held n 3 [c3] = some y3 := by
        have := hf 3 _ rfl
        simpa [show Tryd.prog.cellsOf 3 = 1 by kernel_rfl] using this
  have h4 : DataW.trod enc Tryd.prog W base sp held n 3 [c4] = some y4 := by
        have := hf 4 _ rfl
        simpa [show Tryd.prog.cellsOf 3 = 1 by kernel_rfl] using this
  have h5 : DataW.trod enc Tryd.prog W base sp held n 3 [c5] = some y5 := by
        have := hf 5 _ rfl
        simpa [show Tryd.prog.cellsOf 3 = 1 by kernel_rfl] using this
  have h6 : DataW.trod enc Tryd.prog W base sp held n 3 [c6] = some y6 := by
        have := hf 6 _ rfl
        simpa [show Tryd.prog.cellsOf 3 = 1 by kernel_rfl] using this
  have h7 : DataW.trod enc Tryd.prog W base sp held n 22 [c7] = some y7 := by
        have := hf 7 _ rfl
        simpa [show Tryd.prog.cellsOf 22 = 1 by kernel_rfl] using this
  have hw' : ∀ k, k ∈ y0.1.weights Tryd.prog 3 ∨ k ∈ y1.1.weights Tryd.prog 3 ∨ k ∈ y2.1.weights Tryd.prog 3 ∨ k ∈ y3.1.weights Tryd.prog 3 ∨ k ∈ y4.1.weights Tryd.prog 3 ∨ k ∈ y5.1.weights Tryd.prog 3 ∨ k ∈ y6.1.weights Tryd.prog 3 ∨ k ∈ y7.1.weights Tryd.prog 22 → k ≤ reachBytes := by
        intro k hk
        refine hw k ?_
        unfold DataW.weights
        rw [Tryd.underlying24]
        simp only [List.map_cons, List.map_nil, DataW.weightsEach, List.mem_append, List.not_mem_nil, or_false]
        exact hk
  obtain ⟨a0, k0, w0⟩ := opens3 W H enc base sp held n _ _ h0 (fun k hk => hw' k (Or.inl hk))
  obtain ⟨a1, k1, w1⟩ := opens3 W H enc base sp held n _ _ h1 (fun k hk => hw' k (Or.inr (Or.inl hk)))
  obtain ⟨a2, k2, w2⟩ := opens3 W H enc base sp held n _ _ h2 (fun k hk => hw' k (Or.inr (Or.inr (Or.inl hk))))
  obtain ⟨a3, k3, w3⟩ := opens3 W H enc base sp held n _ _ h3 (fun k hk => hw' k (Or.inr (Or.inr (Or.inr (Or.inl hk)))))
  obtain ⟨a4, k4, w4⟩ := opens3 W H enc base sp held n _ _ h4 (fun k hk => hw' k (Or.inr (Or.inr (Or.inr (Or.inr (Or.inl hk))))))
  obtain ⟨a5, k5, w5⟩ := opens3 W H enc base sp held n _ _ h5 (fun k hk => hw' k (Or.inr (Or.inr (Or.inr (Or.inr (Or.inr (Or.inl hk)))))))
  obtain ⟨a6, k6, w6⟩ := opens3 W H enc base sp held n _ _ h6 (fun k hk => hw' k (Or.inr (Or.inr (Or.inr (Or.inr (Or.inr (Or.inr (Or.inl hk))))))))
  obtain ⟨a7, k7, w7⟩ := opens22 W H enc base sp held n _ _ h7 (fun k hk => hw' k (Or.inr (Or.inr (Or.inr (Or.inr (Or.inr (Or.inr (Or.inr (hk)))))))))
  refine ⟨⟨a0, a1, a2, a3, a4, a5, a6, a7⟩, ?_, w0, w1, w2, w3, w4, w5, w6, w7⟩
  exact ⟨[c0], [c1, c2, c3, c4, c5, c6, c7], rfl, k0, ⟨[c1], [c2, c3, c4, c5, c6, c7], rfl, k1, ⟨[c2], [c3, c4, c5, c6, c7], rfl, k2, ⟨[c3], [c4, c5, c6, c7], rfl, k3, ⟨[c4], [c5, c6, c7], rfl, k4, ⟨[c5], [c6, c7], rfl, k5, ⟨[c6], [c7], rfl, k6, k7⟩⟩⟩⟩⟩⟩⟩
def wfE (x : S24) : Prop := wfN x.f0 ∧ wfN x.f1 ∧ wfN x.f2 ∧ wfN x.f3 ∧ wfN x.f4 ∧ wfN x.f5 ∧ wfN x.f6 ∧ wfL x.f7
def wfEs (l : List S24) : Prop := (∀ x ∈ l, wfE x) ∧ l.length * 80 ≤ 140737488351232
theorem opens29 (W : World) : Opens.Opens Tryd.prog W 29 (Kd.slice 24 k24) wfEs := Opens.opens_slice Tryd.underlying29 (by kernel_rfl) (by kernel_rfl) (opens24 W)
theorem evs_rng {l : List S24} (h : wfEs l) : (∀ x ∈ l, rngX x) ∧ l.length ≤ 4611686018427387904 ∧ ∀ x ∈ l, x.f7.length ≤ 4611686018427387904 := by
  refine ⟨fun x hx => ?_, ?_, fun x hx => ?_⟩
  · obtain ⟨h0, h1, h2, h3, h4, h5, h6, h7, _⟩ := h.1 x hx
    refine ⟨fun o ho => ?_, fun n hn => wfN_range (h7 n hn)⟩
    match o, ho with
    | 0, _ => exact wfN_range h0
    | 1, _ => exact wfN_range h1
    | 2, _ => exact wfN_range h2
    | 3, _ => exact wfN_range h3
    | 4, _ => exact wfN_range h4
    | 5, _ => exact wfN_range h5
    | 6, _ => exact wfN_range h6
  · have := h.2; omega
  · have := (h.1 x hx).2.2.2.2.2.2.2.2; omega
end Go.Proofs.YtiapfhlipoomaaaDoor.Given
end
section
namespace Go.Proofs.YtiapfhlipoomaaaDoor.Given
open Go.RowKit Go.Proofs.YtiapfhlipoomaaaDoorW.PrintWords
set_option linter.unusedVariables false
abbrev laidAll : List (String × DataW Unit) := [("math/bits.deBruijn32tab", Rows.laid_math_bits_deBruijn32tab), ("math/bits.deBruijn64tab", Rows.laid_math_bits_deBruijn64tab), ("internal/strconv.uint64pow10", Rows.laid_internal_strconv_uint64pow10), ("unicode/utf8.acceptRanges", Rows.laid_unicode_utf8_acceptRanges), ("strconv.ErrRange", Rows.laid_strconv_ErrRange), ("strconv.ErrSyntax", Rows.laid_strconv_ErrSyntax), ("unicode/utf8.first", Rows.laid_unicode_utf8_first)]
theorem gPow : Tryd.prog.globalNamed "internal/strconv.uint64pow10" = some 0 := by kernel_rfl
theorem gPowT : (Tryd.prog.globals[0]?).map (·.type) = some 98 := by kernel_rfl
theorem gES : Tryd.prog.globalNamed "strconv.ErrSyntax" = some 6 := by kernel_rfl
theorem gEST : (Tryd.prog.globals[6]?).map (·.type) = some 69 := by kernel_rfl
theorem gER : Tryd.prog.globalNamed "strconv.ErrRange" = some 7 := by kernel_rfl
theorem gERT : (Tryd.prog.globals[7]?).map (·.type) = some 69 := by kernel_rfl
theorem cellsPow : Tryd.prog.cellsOf 98 = 20 := by kernel_rfl
theorem pow_eq : (Rows.laid_internal_strconv_uint64pow10 : DataW Unit) = Lib.tabData .u64 Lib.pow10Tab := by kernel_rfl
noncomputable def laidWorld (os : Os) : World :=
  let N := (World.settled Tryd.prog os).heap.size
  let w0 := World.holding Tryd.prog os ⟨#[.cells #[.string ⟨#[118, 97, 108, 117, 101, 32, 111, 117, 116, 32, 111, 102, 32, 114, 97, 110, 103, 101]⟩] 134, .cells #[.string ⟨#[105, 110, 118, 97, 108, 105, 100, 32, 115, 121, 110, 116, 97, 120]⟩] 134], #[], []⟩
  let put (h : Array Obj) (g : Nat) (cs : Array Value) : Array Obj := h.modify g fun
    | .cells _ t frozen => .cells cs t frozen
    | o => o
  let h0 := put (put w0.heap 6 #[.iface 132 (.pointer (some ⟨N + 1, 0, none⟩))]) 7 #[.iface 132 (.pointer (some ⟨N, 0, none⟩))]
  let h1 := put (put (put h0 0 #[.int .u64 1, .int .u64 10, .int .u64 100, .int .u64 1000, .int .u64 10000, .int .u64 100000, .int .u64 1000000, .int .u64 10000000, .int .u64 100000000, .int .u64 1000000000, .int .u64 10000000000, .int .u64 100000000000, .int .u64 1000000000000, .int .u64 10000000000000, .int .u64 100000000000000, .int .u64 1000000000000000, .int .u64 10000000000000000, .int .u64 100000000000000000, .int .u64 1000000000000000000, .int .u64 10000000000000000000]) 2 #[.int .u8 0, .int .u8 1, .int .u8 28, .int .u8 2, .int .u8 29, .int .u8 14, .int .u8 24, .int .u8 3, .int .u8 30, .int .u8 22, .int .u8 20, .int .u8 15, .int .u8 25, .int .u8 17, .int .u8 4, .int .u8 8, .int .u8 31, .int .u8 27, .int .u8 13, .int .u8 23, .int .u8 21, .int .u8 19, .int .u8 16, .int .u8 7, .int .u8 26, .int .u8 12, .int .u8 18, .int .u8 6, .int .u8 11, .int .u8 5, .int .u8 10, .int .u8 9]) 3 #[.int .u8 0, .int .u8 1, .int .u8 56, .int .u8 2, .int .u8 57, .int .u8 49, .int .u8 28, .int .u8 3, .int .u8 61, .int .u8 58, .int .u8 42, .int .u8 50, .int .u8 38, .int .u8 29, .int .u8 17, .int .u8 4, .int .u8 62, .int .u8 47, .int .u8 59, .int .u8 36, .int .u8 45, .int .u8 43, .int .u8 51, .int .u8 22, .int .u8 53, .int .u8 39, .int .u8 33, .int .u8 30, .int .u8 24, .int .u8 18, .int .u8 12, .int .u8 5, .int .u8 63, .int .u8 55, .int .u8 48, .int .u8 27, .int .u8 60, .int .u8 41, .int .u8 37, .int .u8 16, .int .u8 46, .int .u8 35, .int .u8 44, .int .u8 21, .int .u8 52, .int .u8 32, .int .u8 23, .int .u8 11, .int .u8 54, .int .u8 26, .int .u8 40, .int .u8 15, .int .u8 34, .int .u8 20, .int .u8 31, .int .u8 10, .int .u8 25, .int .u8 14, .int .u8 19, .int .u8 9, .int .u8 13, .int .u8 8, .int .u8 7, .int .u8 6]
  let h2 := put (put h1 4 #[.int .u8 240, .int .u8 240, .int .u8 240, .int .u8 240, .int .u8 240, .int .u8 240, .int .u8 240, .int .u8 240, .int .u8 240, .int .u8 240, .int .u8 240, .int .u8 240, .int .u8 240, .int .u8 240, .int .u8 240, .int .u8 240, .int .u8 240, .int .u8 240, .int .u8 240, .int .u8 240, .int .u8 240, .int .u8 240, .int .u8 240, .int .u8 240, .int .u8 240, .int .u8 240, .int .u8 240, .int .u8 240, .int .u8 240, .int .u8 240, .int .u8 240, .int .u8 240, .int .u8 240, .int .u8 240, .int .u8 240, .int .u8 240, .int .u8 240, .int .u8 240, .int .u8 240, .int .u8 240, .int .u8 240, .int .u8 240, .int .u8 240, .int .u8 240, .int .u8 240, .int .u8 240, .int .u8 240, .int .u8 240, .int .u8 240, .int .u8 240, .int .u8 240, .int .u8 240, .int .u8 240, .int .u8 240, .int .u8 240, .int .u8 240, .int .u8 240, .int .u8 240, .int .u8 240, .int .u8 240, .int .u8 240, .int .u8 240, .int .u8 240, .int .u8 240, .int .u8 240, .int .u8 240, .int .u8 240, .int .u8 240, .int .u8 240, .int .u8 240, .int .u8 240, .int .u8 240, .int .u8 240, .int .u8 240, .int .u8 240, .int .u8 240, .int .u8 240, .int .u8 240, .int .u8 240, .int .u8 240, .int .u8 240, .int .u8 240, .int .u8 240, .int .u8 240, .int .u8 240, .int .u8 240, .int .u8 240, .int .u8 240, .int .u8 240, .int .u8 240, .int .u8 240, .int .u8 240, .int .u8 240, .int .u8 240, .int .u8 240, .int .u8 240, .int .u8 240, .int .u8 240, .int .u8 240, .int .u8 240, .int .u8 240, .int .u8 240, .int .u8 240, .int .u8 240, .int .u8 240, .int .u8 240, .int .u8 240, .int .u8 240, .int .u8 240, .int .u8 240, .int .u8 240, .int .u8 240, .int .u8 240, .int .u8 240, .int .u8 240, .int .u8 240, .int .u8 240, .int .u8 240, .int .u8 240, .int .u8 240, .int .u8 240, .int .u8 240, .int .u8 240, .int .u8 240, .int .u8 240, .int .u8 240, .int .u8 240, .int .u8 240, .int .u8 241, .int .u8 241, .int .u8 241, .int .u8 241, .int .u8 241, .int .u8 241, .int .u8 241, .int .u8 241, .int .u8 241, .int .u8 241, .int .u8 241, .int .u8 241, .int .u8 241, .int .u8 241, .int .u8 241, .int .u8 241, .int .u8 241, .int .u8 241, .int .u8 241, .int .u8 241, .int .u8 241, .int .u8 241, .int .u8 241, .int .u8 241, .int .u8 241, .int .u8 241, .int .u8 241, .int .u8 241, .int .u8 241, .int .u8 241, .int .u8 241, .int .u8 241, .int .u8 241, .int .u8 241, .int .u8 241, .int .u8 241, .int .u8 241, .int .u8 241, .int .u8 241, .int .u8 241, .int .u8 241, .int .u8 241, .int .u8 241, .int .u8 241, .int .u8 241, .int .u8 241, .int .u8 241, .int .u8 241, .int .u8 241, .int .u8 241, .int .u8 241, .int .u8 241, .int .u8 241, .int .u8 241, .int .u8 241, .int .u8 241, .int .u8 241, .int .u8 241, .int .u8 241, .int .u8 241, .int .u8 241, .int .u8 241, .int .u8 241, .int .u8 241, .int .u8 241, .int .u8 241, .int .u8 2, .int .u8 2, .int .u8 2, .int .u8 2, .int .u8 2, .int .u8 2, .int .u8 2, .int .u8 2, .int .u8 2, .int .u8 2, .int .u8 2, .int .u8 2, .int .u8 2, .int .u8 2, .int .u8 2, .int .u8 2, .int .u8 2, .int .u8 2, .int .u8 2, .int .u8 2, .int .u8 2, .int .u8 2, .int .u8 2, .int .u8 2, .int .u8 2, .int .u8 2, .int .u8 2, .int .u8 2, .int .u8 2, .int .u8 2, .int .u8 19, .int .u8 3, .int .u8 3, .int .u8 3, .int .u8 3, .int .u8 3, .int .u8 3, .int .u8 3, .int .u8 3, .int .u8 3, .int .u8 3, .int .u8 3, .int .u8 3, .int .u8 35, .int .u8 3, .int .u8 3, .int .u8 52, .int .u8 4, .int .u8 4, .int .u8 4, .int .u8 68, .int .u8 241, .int .u8 241, .int .u8 241, .int .u8 241, .int .u8 241, .int .u8 241, .int .u8 241, .int .u8 241, .int .u8 241, .int .u8 241, .int .u8 241]) 5 #[.int .u8 128, .int .u8 191, .int .u8 160, .int .u8 191, .int .u8 128, .int .u8 159, .int .u8 144, .int .u8 191, .int .u8 128, .int .u8 143, .int .u8 0, .int .u8 0, .int .u8 0, .int .u8 0, .int .u8 0, .int .u8 0, .int .u8 0, .int .u8 0, .int .u8 0, .int .u8 0, .int .u8 0, .int .u8 0, .int .u8 0, .int .u8 0, .int .u8 0, .int .u8 0, .int .u8 0, .int .u8 0, .int .u8 0, .int .u8 0, .int .u8 0, .int .u8 0]
  { w0 with heap := h2 }
noncomputable abbrev N0 : Nat := (World.settled Tryd.prog default).heap.size
set_option maxRecDepth 1000000 in
theorem laid_piece (os : Os) (args : Array Value) : LaidIn Tryd.prog ((laidWorld os).forCall (fun _ _ => 0) ⟨#[], args, []⟩).memory laidAll [2, 3, 0, 5, 7, N0, 6, N0 + 1, 4] :=
  LaidIn.of_run [2, 3, 0, 5, 7, N0, 6, N0 + 1, 4] 10 (by kernel_rfl) (by kernel_rfl) (by kernel_rfl) (by kernel_rfl)
theorem laid_met (os : Os) (args : Array Value) : laidMet Tryd.prog laidAll ((laidWorld os).forCall (fun _ _ => 0) ⟨#[], args, []⟩).memory := (laid_piece os args).met
theorem star : "*" ++ "errors.errorString" = "*errors.errorString" := by decide
theorem row132 (u : TypeId) (h : Tryd.prog.typeName? 3 u = some "*errors.errorString") : u = 132 :=
  typeName_ptr_named (nm := "errors.errorString") (by rw [star]; kernel_rfl) (by kernel_rfl) (by decide) u (by rw [star]; exact h)
theorem lw_of {W : World} (h : laidMetH Tryd.prog laidAll W) (hS : W.ShapedOpen Tryd.prog) : LW W := by
  rw [show laidMetH Tryd.prog laidAll W = laidMet Tryd.prog laidAll W from rfl] at h
  have hp : Lib.TabIs Tryd.prog W "internal/strconv.uint64pow10" .u64 Lib.pow10Tab :=
    Lib.tabIs_of_head gPow gPowT Tryd.underlying98 Tryd.underlying87 (by kernel_rfl) cellsPow (by have := h.tail.tail; rw [pow_eq] at this; exact this)
  obtain ⟨a0, s0, hv0, -, -, -⟩ := laid_sentinel h.tail.tail.tail.tail gER gERT Tryd.underlying69 row132 Tryd.underlying132 Tryd.underlying134 rfl rfl Tryd.underlying9 (by kernel_rfl) (by kernel_rfl)
  obtain ⟨a1, s1, hv1, -, -, -⟩ := laid_sentinel h.tail.tail.tail.tail.tail gES gEST Tryd.underlying69 row132 Tryd.underlying132 Tryd.underlying134 rfl rfl Tryd.underlying9 (by kernel_rfl) (by kernel_rfl)
  refine ⟨hp, Tryd.laysM146.s1_3 W hS, ⟨_, by have h0 := World.var?_cell gES hv1 0; simpa using h0, Or.inr ⟨_, _, rfl⟩⟩, ⟨_, by have h0 := World.var?_cell gER hv0 0; simpa using h0, Or.inr ⟨_, _, rfl⟩⟩⟩
end Go.Proofs.YtiapfhlipoomaaaDoor.Given
end
