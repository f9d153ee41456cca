import Derived.Test.YtmingnhhmaclaaaGivenG
import Derived.Test.YtmingnhhmaclaaaPrint0
namespace Go.Proofs.Ytmingnhhmaclaaa.Given
open Go.RowKit Go.Proofs.YtmingnhhmaclaaaW.PrintWords Go.Proofs.Ytmingnhhmaclaaa.Print

/-! ### Scan -/
def scanGo (l : List Int) : Nat → Nat → List S40 → List S40 × Int × Int
  | 0, _, acc => (acc, 0, 0)
  | n + 1, at_, acc =>
    if at_ < l.length then
      if isBlank (rd l at_) = true then scanGo l n (at_ + 1) acc
      else if rd l at_ = 35 then scanGo l n (at_ + runLen 24 (l.drop at_)) acc
      else if (tokenOf (l.drop at_)).2.2.2.2 = 0 then
        scanGo l n (at_ + (tokenOf (l.drop at_)).2.2.1.toNat) (acc ++ [⟨(tokenOf (l.drop at_)).1, at_, (tokenOf (l.drop at_)).2.2.1, (tokenOf (l.drop at_)).2.2.2.1⟩])
      else ([], at_, (tokenOf (l.drop at_)).2.2.2.2)
    else (acc, 0, 0)
def scanAll (l : List Int) : List S40 × Int × Int := if l.length > 65536 then ([], 65536, 10) else scanGo l (l.length + 1) 0 []
def scan_Scan.f (l0 : List Int) : Option (List S40 × Int × Int) := some (scanAll l0)
def ScanEnd (r : List S40 × Int × Int) (w : World) (e : Ending) (w' : World) : Prop :=
  ∃ v0_ : Value, e = .returned (.tuple #[v0_, .agg #[.int .i64 r.2.1, .int .i64 r.2.2]]) ∧ Kd.R k40 40 w' w.heap.size (fun _ => True) v0_ r.1 ∧ Below w.heap.size w w'

theorem drop_read {w : World} {A : Option Addr} {c : Nat} {l : List Int} (hr : Kd.C (Kd.int .u8) w A l.length l) (hc : l.length ≤ c) (k : Nat) (hk : k ≤ l.length) :
    ∃ A' : Option Addr, (∀ W : World, (Instr.slice 26 (.slice A l.length c) (some (.int .i64 k)) none none).run Try.prog W = .ok (.slice A' (l.drop k).length (c - k)) W) ∧ Kd.C (Kd.int .u8) w A' (l.drop k).length (l.drop k) ∧ (l.drop k).length ≤ c - k := by
  obtain ⟨i0, hi, _, hs, _⟩ := info_parts info5
  obtain ⟨A', h1, h2, h3⟩ := print_drop_of (P := Try.prog) (Value.int .u8) 0 26 5 .i64 Try.underlying26 hi hs A c l k (by omega) (by omega) hc
  rw [Int.toNat_natCast] at h1 h2 h3
  exact ⟨A', h1, Kd.C_of_reads (h1 := fun _ => rfl) (h2 w (Kd.reads_of_C hr)), h3⟩

set_option maxHeartbeats 1000000 in
theorem scan_any (A : Option Addr) (c : Nat) (l : List Int) (w : World) (hr : Kd.C (Kd.int .u8) w A l.length l) (hc : l.length ≤ c) (hl : l.length ≤ 65536) :
    Calls Try.prog 13 #[.slice A l.length c] w (ScanEnd (scanGo l (l.length + 1) 0 []) w) := by
  have hm := hr.2.1
  have HR := Aside0.mk hr
  clear hr
  have hG : ∀ o : Obj, (w.alloc o).heap[w.heap.size]? = some o := fun o => heap_alloc_new w o
  have HG := Aside0.mk hG
  clear hG
  have HB : ∀ o : Obj, Aside0 (Below w.heap.size w (w.alloc o)) := fun o => ⟨(Below.refl _ w).alloc (Nat.le_refl _) _⟩
  go_enter Try.func13, Try.ntmps13
  go_wp2
  go_loopw [4, 5] (fun v i wr => ∃ (k m : Nat) (acc : List S40), i = .int .i64 k ∧ k ≤ l.length ∧ Aside0 (l.length - k < m) ∧ acc.length ≤ k ∧ Aside0 (scanGo l (l.length + 1) 0 [] = scanGo l m k acc) ∧ Aside0 (wr.heap[w.heap.size]? = some (.cells #[.int .i64 0, .int .i64 0] 34 (0, 0))) ∧ Aside0 (Kd.R k40 40 wr w.heap.size (fun b => b ≠ w.heap.size) v acc) ∧ Aside0 (Below w.heap.size w wr)) (fun _ i _ => l.length - (intOf i).toNat)
  case atStart => exact ⟨0, l.length + 1, [], rfl, by omega, ⟨by omega⟩, by simp, ⟨rfl⟩, ⟨HG.out _⟩, ⟨Kd.R_nil _ _ _ _ _⟩, HB _⟩
  case round =>
    obtain ⟨k, m, acc, rfl, hk, hM, hal, HF, H0, HO, HBW⟩ := hrel
    by_cases hlt : k < l.length
    · obtain ⟨m, rfl⟩ : ∃ m', m = m' + 1 := ⟨m - 1, by have := hM.out; omega⟩
      obtain ⟨adk, ek, hxk⟩ := Kd.at_int HR.out (k : Int) (by omega) (by omega)
      rw [Int.toNat_natCast] at hxk
      replace hxk := (HBW.out.cell (World.block_lt_of_cell? w _ hxk)).trans hxk
      by_cases hb : isBlank (rd l k) = true
      · have HE : Aside0 (scanGo l (l.length + 1) 0 [] = scanGo l m (k + 1) acc) := ⟨by rw [HF.out, scanGo, if_pos hlt, if_pos hb]⟩
        cases ek
        go_wp2_with (go_at_call 22; refine (blank_any _ _).mono ?_; rintro e w' ⟨rfl, rfl⟩)
        go_roundw
        case rel => exact ⟨k + 1, m, acc, by go_num, by omega, ⟨by have := hM.out; omega⟩, by omega, HE, H0, HO, HBW⟩
        case measure => simp [intOf]; omega
      · have hb' : isBlank (rd l k) = false := by simpa using hb
        by_cases h35 : rd l k = 35
        · have HE : Aside0 (scanGo l (l.length + 1) 0 [] = scanGo l m (k + runLen 24 (l.drop k)) acc) := ⟨by rw [HF.out, scanGo, if_pos hlt, if_neg hb, if_pos h35]⟩
          obtain ⟨A', hcut, hread, hcap⟩ := drop_read HR.out hc k hk
          have h35' : (rd l k == 35) = true := beq_iff_eq.2 h35
          have hn1 := runLen_pos 24 (l.drop k) (by rw [List.length_drop]; omega) (by
            have e : rd (l.drop k) 0 = rd l k := by simp [rd]
            rw [e, h35]; rfl)
          have hn2 := runLen_le 24 (l.drop k)
          have hrun := fun W hb => run_calls 24 (by simp) A' (c - k) (l.drop k) W (Kd.C_below hread hb) hcap
          have HRUN := Aside0.mk hrun
          clear hread hrun hb h35
          rw [List.length_drop] at hn2
          obtain ⟨n, hN⟩ : ∃ n, n = runLen 24 (l.drop k) := ⟨_, rfl⟩
          rw [← hN] at hn1 hn2 HE HRUN
          clear hN
          cases ek
          go_wp2_with (first | (go_at_call 22; refine (blank_any _ _).mono ?_; rintro e w' ⟨rfl, rfl⟩) | (go_at_call 23; rw [show l.length - k = (l.drop k).length from List.length_drop.symm]; refine (HRUN.out _ HBW.out).mono ?_; rintro e w' ⟨rfl, rfl⟩))
          go_roundw
          case rel => exact ⟨k + n, m, acc, by go_num, by omega, ⟨by have := hM.out; omega⟩, by omega, HE, H0, HO, HBW⟩
          case measure => simp [intOf]; omega
        · have h35' : (rd l k == 35) = false := beq_eq_false_iff_ne.2 h35
          obtain ⟨A', hcut, hread, hcap⟩ := drop_read HR.out hc k hk
          have hpos : 0 < (l.drop k).length := by rw [List.length_drop]; omega
          have htok := fun W (hb : Below w.heap.size w W) => token_any A' (c - k) (l.drop k) W (Kd.C_below hread hb) hcap hpos
          have HTOK := Aside0.mk htok
          have hlen := tokenOf_len (l.drop k) hpos
          rw [List.length_drop] at hlen
          clear hread htok hpos
          obtain ⟨⟨t1, t2, t3, t4, t5⟩, hT⟩ : ∃ t, t = tokenOf (l.drop k) := ⟨_, rfl⟩
          have HE0 : Aside0 (scanGo l (l.length + 1) 0 [] = if t5 = 0 then scanGo l m (k + t3.toNat) (acc ++ [⟨t1, k, t3, t4⟩]) else ([], (k : Int), t5)) := ⟨by rw [HF.out, scanGo, if_pos hlt, if_neg hb, if_neg h35, ← hT]⟩
          rw [← hT] at hlen HTOK
          clear hT hb h35
          by_cases ht5 : t5 = 0
          · obtain ⟨n, h3, hn1, hn2⟩ := hlen ht5
            have h3' : t3 = n := h3
            subst h3'
            have HE : Aside0 (scanGo l (l.length + 1) 0 [] = scanGo l m (k + n) (acc ++ [⟨t1, k, n, t4⟩])) := ⟨by rw [HE0.out, if_pos ht5, Int.toNat_natCast]⟩
            have ht5' : (t5 == 0) = true := beq_iff_eq.2 ht5
            have ht5'' : (t5 != 0) = false := by rw [ht5]; rfl
            clear hlen h3 ht5 HE0
            cases ek
            go_wp2_with (first | (go_at_call 22; refine (blank_any _ _).mono ?_; rintro e w' ⟨rfl, rfl⟩) | (go_at_call 25; rw [show l.length - k = (l.drop k).length from List.length_drop.symm]; refine (HTOK.out _ HBW.out).mono ?_; rintro e W1 ⟨rfl, hb1⟩; have Hb1 := Aside0.mk hb1; clear hb1; have HBW1 := Aside0.mk (below_then HBW.out HBW.out.size Hb1.out); have HO1 := Aside0.mk (Kd.R_elderB (Kd.R_below HO.out Hb1.out) W1.heap.size (Nat.le_refl _)); have H01 := Aside0.mk (heap_keep H0.out Hb1.out)) | (at_builtin; refine Kd.R_append k40 (w0 := w) w.heap.size rfl (.tmp 50) (.tmp 52) 31 40 (.agg #[(.int .i64 0), (.int .i64 0), (.int .i64 0), (.int .i64 0)]) 32 rfl Try.underlying31 info40 rfl (by decide) (by omega) u4 acc (⟨t1, k, n, t4⟩ : S40) [.int .i64 t1, .int .i64 k, .int .i64 n, .int .i64 t4] (fun b => b ≠ w.heap.size ∧ b ≠ W1.heap.size) (fun _ => False) rfl ?hx ?aP (fun _ hk => hk.elim) ?aF ?aO ?aB ?aS ?aL ?_; (case hx => go_simp; done); (case aP => exact k40_mkM _ _ _ (⟨t1, k, n, t4⟩ : S40)); (case aF => intro b hb; have := HBW1.out.size; simp at hb; omega); (case aO => exact Kd.R_alloc HO1.out _); (case aB => exact below_alloc HBW1.out _); (case aS => have := HBW1.out.size; simp; omega); (case aL => omega); intro v1 w1 hR hB hg hat; have HR1 := Aside0.mk hR; have HB1 := Aside0.mk hB; have hG0 := (hg.block w.heap.size (by have := HBW1.out.size; simp; omega) (fun e => (HO1.out.1 _ e.symm).1 rfl)).trans (heap_keep H01.out (below_alloc (Below.refl _ _) _)); have HG0 := Aside0.mk hG0; have hG1 := (hg.block W1.heap.size (by simp) (fun e => (HO1.out.1 _ e.symm).2 rfl)).trans (heap_alloc_new W1 _); have hc2 := cell_of_row w1 W1.heap.size 2 _ _ _ hG1; replace hc2 : w1.cell? ⟨W1.heap.size, 2, none⟩ = some (.int .i64 n) := hc2; clear hR hB hg hat hG0 hG1))
            go_roundw
            case rel => exact ⟨k + n, m, acc ++ [⟨t1, k, n, t4⟩], by go_num, by omega, ⟨by have := hM.out; omega⟩, by simp; omega, HE, HG0, ⟨Kd.R_mono HR1.out (fun _ h => h.1)⟩, HB1⟩
            case measure => simp [intOf]; omega
          · have HE : Aside0 (scanGo l (l.length + 1) 0 [] = ([], (k : Int), t5)) := ⟨by rw [HE0.out, if_neg ht5]⟩
            have ht5' : (t5 == 0) = false := beq_eq_false_iff_ne.2 ht5
            have ht5'' : (t5 != 0) = true := bne_iff_ne.2 ht5
            clear hlen ht5 HE0
            cases ek
            go_wp2_with (first | (go_at_call 22; refine (blank_any _ _).mono ?_; rintro e w' ⟨rfl, rfl⟩) | (go_at_call 25; rw [show l.length - k = (l.drop k).length from List.length_drop.symm]; refine (HTOK.out _ HBW.out).mono ?_; rintro e W1 ⟨rfl, hb1⟩; have Hb1 := Aside0.mk hb1; clear hb1; have HBW1 := Aside0.mk (below_then HBW.out HBW.out.size Hb1.out); have HO1 := Aside0.mk (Kd.R_elderB (Kd.R_below HO.out Hb1.out) W1.heap.size (Nat.le_refl _)); have H01 := Aside0.mk (heap_keep H0.out Hb1.out)) | (refine wpList_store_row rfl 34 (.tmp 3) (.tmp 47) rfl w.heap.size #[.int .i64 k, .int .i64 t5] rfl rfl 34 _ (heap_keep H01.out (below_alloc (Below.refl _ _) _)) (by kernel_rfl) rfl (by kernel_rfl) ?_))
            refine bodyPost_ret (results_tc rfl _ _ w.heap.size 34 #[.int .i64 k, .int .i64 t5] (0, 0) _ rfl (setRow_heap _ _ _ _ _ _ (heap_keep H01.out (below_alloc (Below.refl _ _) _))) Try.underlying34 rfl (by kernel_rfl)) rfl ?_
            rw [HE.out]
            exact ⟨_, rfl, Kd.R_nil _ _ _ _ _, below_setRow (below_alloc HBW1.out _) (Nat.le_refl _) _⟩
    · have HE : Aside0 (scanGo l (l.length + 1) 0 [] = (acc, 0, 0)) := ⟨by
        obtain ⟨m, rfl⟩ : ∃ m', m = m' + 1 := ⟨m - 1, by have := hM.out; omega⟩
        rw [HF.out, scanGo, if_neg hlt]⟩
      go_wp2_with (refine wpList_store_row rfl 34 (.tmp 3) (.tmp 59) rfl w.heap.size #[.int .i64 0, .int .i64 0] rfl rfl 34 _ H0.out (by kernel_rfl) rfl (by kernel_rfl) ?_)
      refine bodyPost_ret (results_tc rfl _ _ w.heap.size 34 #[.int .i64 0, .int .i64 0] (0, 0) _ rfl (setRow_heap _ _ _ _ _ _ H0.out) Try.underlying34 rfl (by kernel_rfl)) rfl ?_
      rw [HE.out]
      exact ⟨_, rfl, Kd.R_mono (Kd.R_step HO.out (fun b hb _ => setRow_other _ _ _ _ hb)) (fun _ _ => trivial), below_setRow HBW.out (Nat.le_refl _) _⟩

set_option maxHeartbeats 400000 in
theorem scan_long (A : Option Addr) (c : Nat) (l : List Int) (w : World) (hl : 65536 < l.length) : Calls Try.prog 13 #[.slice A l.length c] w (ScanEnd ([], 65536, 10) w) := by
  have hG : ∀ o : Obj, (w.alloc o).heap[w.heap.size]? = some o := fun o => heap_alloc_new w o
  have HG := Aside0.mk hG
  clear hG
  go_enter Try.func13, Try.ntmps13
  go_wp2_with (refine wpList_store_row rfl 34 (.tmp 3) (.tmp 11) rfl w.heap.size #[.int .i64 65536, .int .i64 10] rfl rfl 34 _ (HG.out _) (by kernel_rfl) rfl (by kernel_rfl) ?_)
  refine bodyPost_ret (results_tc rfl _ _ w.heap.size 34 #[.int .i64 65536, .int .i64 10] (0, 0) _ rfl (setRow_heap _ _ _ _ _ _ (HG.out _)) Try.underlying34 rfl (by kernel_rfl)) rfl ?_
  exact ⟨_, rfl, Kd.R_nil _ _ _ _ _, below_setRow (below_alloc (Below.refl _ _) _) (Nat.le_refl _) _⟩
theorem scan_Scan.calls (A0 : Option Addr) (c0 : Nat) (l0 : List Int) (r1 : List S40) (r2 : Int) (r3 : Int) (w : World) (hr0 : Kd.C (Kd.int .u8) w A0 l0.length l0) (hc0 : l0.length ≤ c0) (h : scan_Scan.f l0 = some (r1, r2, r3)) :
    Calls Try.prog 13 #[.slice A0 l0.length c0] w fun e w' => ∃ v0_ : Value, e = .returned (.tuple #[v0_, .agg #[.int .i64 r2, .int .i64 r3]]) ∧ Kd.R k40 40 w' w.heap.size (fun _ => True) v0_ r1 ∧ Below w.heap.size w w' := by
  injection h with h
  unfold scanAll at h
  split at h
  · obtain ⟨rfl, rfl, rfl⟩ : [] = r1 ∧ 65536 = r2 ∧ 10 = r3 := by simpa using h
    exact scan_long A0 c0 l0 w (by omega)
  · have := scan_any A0 c0 l0 w hr0 hc0 (by omega)
    rw [h] at this
    exact this
end Go.Proofs.Ytmingnhhmaclaaa.Given
