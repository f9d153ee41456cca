/- trace.Parse at any text shorter than 4294967281 bytes. -/
import Derived.Test.YtiapfhlipoomaaaDoorGivenJ
import Derived.Laws.RangeAny
import Derived.Lib.OthersKept
namespace Go.Proofs.YtiapfhlipoomaaaDoor.Given
open Go.RowKit Go.Proofs.YtiapfhlipoomaaaDoorW.PrintWords Go.Proofs.YtiapfhlipoomaaaDoorW.PrintLast Go.Proofs.YtiapfhlipoomaaaDoorW.PrintMore Go.Proofs.YtiapfhlipoomaaaDoor.Print
set_option linter.unusedVariables false
set_option linter.unusedSimpArgs false

/-- What Parse answers, from a place on: the events, the line, the error. -/
def parseRun (s : ByteArray) : Nat → Nat → Nat → List S24 → List S24 × Nat × Int
  | 0, _, _, _ => ([], 0, 0)
  | m + 1, pos, from_, out =>
    if pos < s.size then
      if (Utf8.decode s pos).1 = 10 then match oneOf (s.extract from_ pos) with
        | some e => parseRun s m (pos + (Utf8.decode s pos).2) (pos + 1) (out ++ [e])
        | none => ([], out.length + 1, 180)
      else parseRun s m (pos + (Utf8.decode s pos).2) from_ out
    else if from_ < s.size then ([], out.length + 1, 180) else (out, 0, 0)
def parseOf (s : ByteArray) : List S24 × Nat × Int := parseRun s (s.size + 1) 0 0 []
/-- What Parse answers lies in memory of its own, each list apart. -/
def ParseSays (w : World) (r : List S24 × Nat × Int) (e : Ending) (w' : World) : Prop :=
  ∃ A c, e = .returned (.tuple #[.slice A r.1.length c, .int .i64 (r.2.1 : Int), .int .i64 r.2.2]) ∧ Kd.S k24 24 w' w.heap.size (fun _ => True) (.slice A r.1.length c) r.1 ∧ Below w.heap.size w w'
theorem width_pos (s : ByteArray) (pos : Nat) (h : pos < s.size) : 1 ≤ (Utf8.decode s pos).2 := by
  by_cases ha : (s[pos]'h).toNat < 128
  · rw [decode_ascii s pos h ha]
    exact Nat.le_refl _
  · exact (decode_high s pos h (by omega)).2
theorem extract_size (s : ByteArray) (a b : Nat) : (s.extract a b).size ≤ s.size := by
  rw [ByteArray.size_extract]
  omega
theorem fr_iter {base g : Nat} {w w1 : World} (h : Fr base g w w1) (s : ByteArray) (pos : Nat) : Fr base g w (w1.iterAt g s pos) :=
  ⟨h.os, h.tape, h.output, by rw [Lib.iterAt_size]; exact h.size, fun k hk hg => (Lib.iterAt_other w1 g k s pos hg).trans (h.block k hk hg)⟩
set_option maxRecDepth 100000 in
set_option maxHeartbeats 16000000 in
theorem parse_any (s : ByteArray) (w : World) (hL : LW w) (hs : s.size < 4294967281) : Calls Tryd.prog 18 #[.string s] w (ParseSays w (parseOf s)) := by
  have hu24 := Tryd.underlying24
  have HL := Aside0.mk hL
  have HS := Aside0.mk hs
  clear hL hs
  go_enter Tryd.func18, Tryd.ntmps18
  go_wp2
  have BI0 := Aside0.mk (World.iter_heap w s 0)
  have HW0 : Aside0 (Below w.heap.size w (w.iter s 0)) := ⟨bel1 w _⟩
  have HWS : Aside0 (w.heap.size + 1 ≤ (w.iter s 0).heap.size) := ⟨by show w.heap.size + 1 ≤ (w.alloc _).heap.size; rw [size_alloc]; exact Nat.le_refl _⟩
  obtain ⟨g, hg⟩ : ∃ g, g = w.heap.size := ⟨_, rfl⟩
  have HG := Aside0.mk hg
  rw [← hg] at BI0 HWS ⊢
  generalize w.iter s 0 = wi at BI0 HW0 HWS ⊢
  clear hg
  go_loopw [5, 6] (fun v5 v6 wr => ∃ (pos m fr : Nat) (out : List S24), v6 = .int .i64 (fr : Int) ∧ fr ≤ pos ∧ out.length ≤ pos ∧ out.length ≤ s.size ∧ s.size + 1 ≤ pos + m ∧ 1 ≤ m ∧ Aside0 (parseOf s = parseRun s m pos fr out) ∧ Aside0 (Kd.S k24 24 wr (g + 1) (fun _ => True) v5 out) ∧ Aside0 (wr.heap[g]? = some (.stringIter s pos)) ∧ Aside0 (Fr (g + 1) g wi wr)) (fun _ _ wr => s.size + 4 - wr.iterPos g)
  case atStart => exact ⟨0, s.size + 1, 0, [], rfl, by omega, by simp, by simp, by omega, by omega, ⟨rfl⟩, ⟨Kd.S_nil _ _ _ _ _⟩, BI0, ⟨⟨rfl, rfl, rfl, Nat.le_refl _, fun _ _ _ => rfl⟩⟩⟩
  case round =>
    clear BI0
    obtain ⟨pos, m, fr, out, rfl, hfp, hol, hos, hpm, hm1, HP, HO, BI, FR⟩ := hrel
    obtain ⟨Ao, co, rfl⟩ := Kd.S_slice HO.out
    obtain ⟨m, rfl⟩ : ∃ m', m = m' + 1 := ⟨m - 1, by omega⟩
    have hs := HS.out
    have GW := Aside0.mk (blk_lt BI.out)
    by_cases hp : pos < s.size
    · have hnx : ∀ ty, (Instr.next (.pointer (some ⟨g, 0, none⟩)) true ty).run Tryd.prog wr = _ := fun ty => Lib.run_next_any_at wr g s pos ty BI.out hp
      have hwd := width_pos s pos hp
      have BI2 := Aside0.mk (Lib.iterAt_heap wr g s pos (pos + (Utf8.decode s pos).2) BI.out)
      have FR2 := Aside0.mk (fr_iter FR.out s (pos + (Utf8.decode s pos).2))
      have HO2 : Aside0 (Kd.S k24 24 (wr.iterAt g s (pos + (Utf8.decode s pos).2)) (g + 1) (fun k => k < wr.heap.size) (.slice Ao out.length co) out) := ⟨Kd.S_mono (Kd.S_step (Kd.S_bound HO.out) (fun k hk _ => Lib.iterAt_other wr g k s _ (by have := hk.2.1; omega))) (fun k hk => hk.2.2.1)⟩
      have HSZ2 : Aside0 ((wr.iterAt g s (pos + (Utf8.decode s pos).2)).heap.size = wr.heap.size) := ⟨Lib.iterAt_size _ _ _ _⟩
      obtain ⟨wd, hwdd⟩ : ∃ wd, wd = (Utf8.decode s pos).2 := ⟨_, rfl⟩
      by_cases h10 : (Utf8.decode s pos).1 = 10
      · have HP2 : Aside0 (parseOf s = match oneOf (s.extract fr pos) with
          | some e => parseRun s m (pos + (Utf8.decode s pos).2) (pos + 1) (out ++ [e])
          | none => ([], out.length + 1, 180)) := ⟨by rw [HP.out, parseRun, if_pos hp, if_pos h10]⟩
        rw [h10] at hnx
        rw [← hwdd] at hnx hwd BI2 FR2 HO2 HP2 HSZ2
        clear HP h10 HO FR hwdd
        generalize wr.iterAt g s (pos + wd) = wn at hnx BI2 FR2 HO2 HSZ2
        have HLW : Aside0 (LW wn) := ⟨HL.out.below (HW0.out.trans (FR2.out.below (by have := HG.out; omega) (by have := HG.out; omega)))⟩
        have hsl : ∀ W, (Instr.slice 9 (.string s) (some (.int .i64 (fr : Int))) (some (.int .i64 (pos : Int))) none).run Tryd.prog W = .ok (.string (s.extract fr pos)) W := fun W => by
          have := run_slice_string (P := Tryd.prog) W 9 s .i64 .i64 (fr : Int) (pos : Int) Tryd.underlying9 (by omega) (by omega) (by omega)
          simpa using this
        cases hone : oneOf (s.extract fr pos) with
        | none =>
          have HONE := Aside0.mk hone
          replace HP2 : Aside0 (parseOf s = ([], out.length + 1, 180)) := ⟨by rw [HP2.out, HONE.out]⟩
          clear hone
          go_wp2_with (go_at_call 37; refine (one_any (s.extract fr pos) _ HLW.out (Nat.lt_of_le_of_lt (extract_size _ _ _) HS.out)).mono ?_; rw [HONE.out]; rintro e w3 ⟨⟨x3, A3, n3, c3, rfl⟩, hb⟩; have NB := Aside0.mk hb; clear hb)
          go_ret3
          rw [HP2.out]
          exact ⟨none, 0, rfl, Kd.S_nil _ _ _ _ _, below_alloc (HW0.out.trans ((FR2.out.trans (Fr.of_below (NB.out.mono (Nat.le_trans HWS.out FR2.out.size)))).below (by have := HG.out; omega) (by have := HG.out; omega))) _⟩
        | some x =>
          have HONE := Aside0.mk hone
          replace HP2 : Aside0 (parseOf s = parseRun s m (pos + wd) (pos + 1) (out ++ [x])) := ⟨by rw [HP2.out, HONE.out]⟩
          have HTL : Aside0 ((out.length + 1) * 80 ≤ 140737488355328) := ⟨by omega⟩
          clear hone
          go_upto_region 8 with (go_at_call 37; refine (one_any (s.extract fr pos) _ HLW.out (Nat.lt_of_le_of_lt (extract_size _ _ _) HS.out)).mono ?_; rw [HONE.out]; rintro e w3 ⟨A3, c3, rfl, hr, hb⟩; have NB := Aside0.mk hb; have HR3 := Aside0.mk hr; clear hb hr)
          have BX := Aside0.mk (heap_alloc_new w3 (.cells (evC x (.slice A3 x.f7.length c3)) 24))
          have NB3 := Aside0.mk (NB.out.trans ((bel1 w3 (.cells (evC x (.slice A3 x.f7.length c3)) 24)).mono NB.out.size))
          have HR4 := Aside0.mk (Kd.R_below HR3.out (bel1 w3 (.cells (evC x (.slice A3 x.f7.length c3)) 24)))
          clear NB HR3
          generalize w3.heap.size = g9 at BX ⊢
          generalize w3.alloc (.cells (evC x (.slice A3 x.f7.length c3)) 24) = wk at BX NB3 HR4 ⊢
          have NB := NB3
          have HR3 := HR4
          clear NB3 HR4
          go_wp2_with (first
            | (refine wpList_load_row rfl 24 (.tmp 9) rfl g9 rfl 24 (evC x (.slice A3 x.f7.length c3)) (0, 0) _ BX.out Tryd.underlying24 rfl (by kernel_rfl) ?_)
            | ((with_reducible refine gate_builtin (b := .append) (xs := #[.tmp 32, .tmp 34]) rfl ?_); at_builtin; refine Kd.S_append k24 (w0 := wk) (g + 1) rfl (.tmp 32) (.tmp 34) 29 24 (.agg #[.int .i64 0, .int .i64 0, .int .i64 0, .int .i64 0, .int .i64 0, .int .i64 0, .int .i64 0, .slice none 0 0]) 80 rfl Tryd.underlying29 info24 rfl (by decide) (by omega) (.slice Ao out.length co) out x [.int .i64 x.f0, .int .i64 x.f1, .int .i64 x.f2, .int .i64 x.f3, .int .i64 x.f4, .int .i64 x.f5, .int .i64 x.f6, .slice A3 x.f7.length c3] (fun _ => True) (fun k => wn.heap.size ≤ k) rfl rfl ?aP ?aK (fun _ _ => trivial) ?aO (Below.refl _ _) ?aS HTL.out ?_; (case aP => exact k24_mkM _ _ _ x (Kd.R_lower HR3.out (by have := blk_lt BI2.out; omega))); (case aK => exact fun k hk => ⟨trivial, fun h => by have := Kd.S_lt HO2.out k h.symm; have := HSZ2.out; omega⟩); (case aO => exact Kd.S_mono (Kd.S_below HO2.out NB.out) (fun k hk => ⟨trivial, fun h => by have := HSZ2.out; omega⟩)); (case aS => have := blk_lt BI2.out; have := NB.out.size; omega); intro v4 w4 ho hb _ _; obtain ⟨A4, c4, rfl⟩ := Kd.S_slice ho; have HO4 := Aside0.mk ho; have NB4 := Aside0.mk hb; clear ho hb))
          have hBI := BI2.out
          have NBX := Aside0.mk ((NB.out.mono (by have := blk_lt hBI; omega : g + 1 ≤ wn.heap.size)).trans NB4.out)
          go_roundw
          case rel => exact ⟨pos + wd, m, pos + 1, out ++ [x], by go_num, by omega, by simp; omega, by simp; omega, by omega, by omega, HP2, by simpa using HO4, ⟨(NBX.out.block g (by omega)).trans hBI⟩, ⟨FR2.out.trans (Fr.of_below NBX.out)⟩⟩
          case measure => simp only [World.iterPos, (NBX.out.block g (by omega)).trans hBI, BI.out]; omega
      · have HP2 : Aside0 (parseOf s = parseRun s m (pos + (Utf8.decode s pos).2) fr out) := ⟨by rw [HP.out, parseRun, if_pos hp, if_neg h10]⟩
        obtain ⟨dc, hdc⟩ : ∃ dc, dc = (Utf8.decode s pos).1 := ⟨_, rfl⟩
        rw [← hdc] at hnx h10
        rw [← hwdd] at hnx hwd BI2 FR2 HO2 HP2 HSZ2
        have h10' : ((dc : Int) == 10) = false := by simpa using (fun h => h10 (by omega) : ¬ (dc : Int) = 10)
        clear HP h10 HO FR hwdd hdc
        generalize wr.iterAt g s (pos + wd) = wn at hnx BI2 FR2 HO2 HSZ2
        go_wp2
        go_roundw
        case rel => exact ⟨pos + wd, m, fr, out, rfl, by omega, by omega, by omega, by omega, by omega, HP2, ⟨Kd.S_mono HO2.out (fun _ _ => trivial)⟩, BI2, FR2⟩
        case measure => simp only [World.iterPos, BI2.out, BI.out]; omega
    · have hnx : ∀ ty, (Instr.next (.pointer (some ⟨g, 0, none⟩)) true ty).run Tryd.prog wr = _ := fun ty => Lib.run_next_end_at wr g s pos ty BI.out hp
      have HE : Aside0 (Below w.heap.size w wr) := ⟨HW0.out.trans (FR.out.below (by have := HG.out; omega) (by have := HG.out; omega))⟩
      have HGL : Aside0 (w.heap.size ≤ g + 1) := ⟨by have := HG.out; omega⟩
      by_cases hfs : fr < s.size
      · have HP2 : Aside0 (parseOf s = ([], out.length + 1, 180)) := ⟨by rw [HP.out, parseRun, if_neg hp, if_pos hfs]⟩
        have hd : decide ((fr : Int) < (s.size : Int)) = true := decide_eq_true (by omega)
        go_wp2
        go_ret3
        rw [HP2.out]
        exact ⟨none, 0, rfl, Kd.S_nil _ _ _ _ _, HE.out⟩
      · have HP2 : Aside0 (parseOf s = (out, 0, 0)) := ⟨by rw [HP.out, parseRun, if_neg hp, if_neg hfs]⟩
        have hd : decide ((fr : Int) < (s.size : Int)) = false := decide_eq_false (by omega)
        go_wp2
        go_ret3
        rw [HP2.out]
        exact ⟨Ao, co, rfl, Kd.S_lower HO.out HGL.out, HE.out⟩
end Go.Proofs.YtiapfhlipoomaaaDoor.Given
