/- The walk of the law ScanReads. -/
import Derived.Test.YtmingnhhmaclaaaReadsA
import Derived.BigQuiet
namespace Go.Proofs.Ytmingnhhmaclaaa.Bk
open Go.RowKit Go.Proofs.YtmingnhhmaclaaaW.PrintWords Go.Proofs.YtmingnhhmaclaaaW.PrintLast Go.Proofs.YtmingnhhmaclaaaW.PrintMore Go.Proofs.Ytmingnhhmaclaaa.Print Go.Proofs.Ytmingnhhmaclaaa.Given
set_option linter.unusedVariables false
set_option linter.unusedSimpArgs false

theorem scan_len (l : List Int) : (scanAll l).1.length ≤ 65536 := by
  by_cases h : (scanAll l).2.2 = 0
  · obtain ⟨ts, hS, hT⟩ := scanAll_toks l h
    have h2 := hT.wide_len.2
    rw [hS]
    unfold scanAll at h
    split at h
    · simp at h
    · show ts.length ≤ 65536
      omega
  · rw [(scanAll_bad l h).1]
    exact Nat.zero_le _
theorem C_cells {w : World} {A : Option Addr} {l : List Int} (h : Kd.C (Kd.int .u8) w A l.length l) (hp : 0 < l.length) : ∃ ad, A = some ad ∧ ∀ j v, (ownB l)[j]? = some v → w.cell? (ad.add j) = some v := by
  obtain ⟨ad, e, hc⟩ := (Kd.reads_of_C (enc := fun n => Value.int .u8 n) (h1 := fun _ => rfl) (d := (0 : Int)) h).2.2 hp
  refine ⟨ad, e, fun j v hv => ?_⟩
  unfold ownB at hv
  rw [List.getElem?_map] at hv
  have hj : j < l.length := by
    rcases Nat.lt_or_ge j l.length with h1 | h1
    · exact h1
    · rw [List.getElem?_eq_none h1] at hv; simp at hv
  rw [List.getElem?_eq_getElem hj] at hv
  injection hv with hv
  rw [hc j hj, ← hv, List.getD_eq_getElem?_getD, List.getElem?_eq_getElem hj]
  rfl
theorem spl0 (l : List Int) : splice (ownB (List.replicate (l.length + 4) 0)) 0 (ownB l) = ownB (l ++ [0, 0, 0, 0]) := by
  unfold splice
  rw [List.take_zero, List.nil_append, ownB_len, Nat.zero_add]
  unfold ownB
  rw [List.map_append, ← List.map_drop, List.drop_replicate, Nat.add_sub_cancel_left]
  rfl
theorem spl4 (l : List Int) : (ownB (l ++ [0, 0, 0, 0])).toArray.toList.take l.length ++ Lib.byteCells (⟨#[120, 120, 120, 120]⟩ : ByteArray).data.toList ++ (ownB (l ++ [0, 0, 0, 0])).toArray.toList.drop (l.length + 4) = ownB (l ++ [120, 120, 120, 120]) := by
  unfold ownB
  rw [List.map_append, List.map_append]
  have hl : (l.map (fun c => Value.int .u8 c)).length = l.length := List.length_map _
  simp only [List.toList_toArray]
  rw [List.take_append_of_le_length (by omega), List.take_of_length_le (by omega), List.drop_eq_nil_of_le (by simp), List.append_nil]
  rfl
theorem own_from (W : World) (g n : Nat) : (Instr.slice 26 (.slice (some ⟨g, 0, none⟩) (n + 4) (n + 4)) (some (.int .i64 (n : Int))) none none).run Try.prog W = .ok (.slice (some ⟨g, n, none⟩) 4 4) W := by
  obtain ⟨i, hi, hz, hs, hb⟩ := info_parts info5
  have h := cut_from (P := Try.prog) 26 5 .i64 Try.underlying26 hi 1 hs (some ⟨g, 0, none⟩) (n + 4) (n + 4) (n : Int) (by omega) (by omega) W
  rw [h]
  simp [Addr.add]
  omega
theorem own_to (W : World) (g n : Nat) : (Instr.slice 26 (.slice (some ⟨g, 0, none⟩) (n + 4) (n + 4)) none (some (.int .i64 (n : Int))) none).run Try.prog W = .ok (.slice (some ⟨g, 0, none⟩) n (n + 4)) W := by
  obtain ⟨i, hi, hz, hs, hb⟩ := info_parts info5
  have h := cut_to (P := Try.prog) 26 5 .i64 Try.underlying26 hi (some ⟨g, 0, none⟩) (n + 4) (n + 4) (n : Int) (by omega) (by omega) (by omega) W
  rw [h]
  simp
theorem copy4 (w : World) (g : Nat) (l : List Int) (h : w.heap[g]? = some (.cells (ownB (l ++ [0, 0, 0, 0])).toArray 5 (0, 0))) : (Builtin.copy_ #[26, 9] 3 #[.slice (some ⟨g, l.length, none⟩) 4 4, .string (⟨#[120, 120, 120, 120]⟩ : ByteArray)]).run Try.prog w = .ok (goInt 4) (w.setRow g (ownB (l ++ [120, 120, 120, 120])).toArray) := by
  have hz : (Try.prog.info? 5).map (·.size) = some 1 := by kernel_rfl
  have h2 := Lib.run_copy_row_string (P := Try.prog) w 26 9 3 5 g l.length 4 4 (⟨#[120, 120, 120, 120]⟩ : ByteArray) (ownB (l ++ [0, 0, 0, 0])).toArray 5 Try.underlying26 hz h (by decide) (by rw [List.size_toArray, ownB_len, List.length_append]; exact Nat.le_refl _)
  have e := spl4 l
  have e4 : (⟨#[120, 120, 120, 120]⟩ : ByteArray).size = 4 := rfl
  rw [e4, e] at h2
  exact h2
theorem str_app (l : List Int) : strOfNums l ++ (⟨#[120, 120, 120, 120]⟩ : ByteArray) = strOfNums (l ++ [120, 120, 120, 120]) := by
  apply Go.WideShapes.bytes_inj
  rw [← ByteArray.toList_eq, ← ByteArray.toList_eq]
  simp [strOfNums, ByteArray.toList_eq]
theorem parted8 {a b c d e f g h : Value} {a1 a2 b1 b2 c1 c2 d1 d2 e1 e2 f1 f2 g1 g2 h1 h2 : Nat} (sa : Span a1 a2 a) (sb : Span b1 b2 b) (sc : Span c1 c2 c) (sd : Span d1 d2 d) (se : Span e1 e2 e) (sf : Span f1 f2 f) (sg : Span g1 g2 g) (sh : Span h1 h2 h) (o : a2 ≤ b1 ∧ b2 ≤ c1 ∧ c2 ≤ e1 ∧ e2 ≤ f1 ∧ f2 ≤ g1 ∧ g2 ≤ d1 ∧ d2 ≤ h1) (m : a1 ≤ a2 ∧ b1 ≤ b2 ∧ c1 ≤ c2 ∧ d1 ≤ d2 ∧ e1 ≤ e2 ∧ f1 ≤ f2 ∧ g1 ≤ g2 ∧ h1 ≤ h2) : Parted [a, b, c, d, e, f, g, h] := by
  refine parted_of ?_
  refine List.Pairwise.cons ?pa (List.Pairwise.cons ?pb (List.Pairwise.cons ?pc (List.Pairwise.cons ?pd (List.Pairwise.cons ?pe (List.Pairwise.cons ?pf (List.Pairwise.cons ?pg (List.Pairwise.cons ?ph (List.Pairwise.nil))))))))
  case pa =>
    intro x hx
    simp only [List.mem_cons, List.not_mem_nil, or_false] at hx
    rcases hx with rfl | rfl | rfl | rfl | rfl | rfl | rfl
    · exact Span.ne sa sb (by omega)
    · exact Span.ne sa sc (by omega)
    · exact Span.ne sa sd (by omega)
    · exact Span.ne sa se (by omega)
    · exact Span.ne sa sf (by omega)
    · exact Span.ne sa sg (by omega)
    · exact Span.ne sa sh (by omega)
  case pb =>
    intro x hx
    simp only [List.mem_cons, List.not_mem_nil, or_false] at hx
    rcases hx with rfl | rfl | rfl | rfl | rfl | rfl
    · exact Span.ne sb sc (by omega)
    · exact Span.ne sb sd (by omega)
    · exact Span.ne sb se (by omega)
    · exact Span.ne sb sf (by omega)
    · exact Span.ne sb sg (by omega)
    · exact Span.ne sb sh (by omega)
  case pc =>
    intro x hx
    simp only [List.mem_cons, List.not_mem_nil, or_false] at hx
    rcases hx with rfl | rfl | rfl | rfl | rfl
    · exact Span.ne sc sd (by omega)
    · exact Span.ne sc se (by omega)
    · exact Span.ne sc sf (by omega)
    · exact Span.ne sc sg (by omega)
    · exact Span.ne sc sh (by omega)
  case pd =>
    intro x hx
    simp only [List.mem_cons, List.not_mem_nil, or_false] at hx
    rcases hx with rfl | rfl | rfl | rfl
    · exact Span.ne sd se (by omega)
    · exact Span.ne sd sf (by omega)
    · exact Span.ne sd sg (by omega)
    · exact Span.ne sd sh (by omega)
  case pe =>
    intro x hx
    simp only [List.mem_cons, List.not_mem_nil, or_false] at hx
    rcases hx with rfl | rfl | rfl
    · exact Span.ne se sf (by omega)
    · exact Span.ne se sg (by omega)
    · exact Span.ne se sh (by omega)
  case pf =>
    intro x hx
    simp only [List.mem_cons, List.not_mem_nil, or_false] at hx
    rcases hx with rfl | rfl
    · exact Span.ne sf sg (by omega)
    · exact Span.ne sf sh (by omega)
  case pg =>
    intro x hx
    simp only [List.mem_cons, List.not_mem_nil, or_false] at hx
    rcases hx with rfl
    · exact Span.ne sg sh (by omega)
  case ph => intro x hx; cases hx
theorem sz5 : (Try.prog.info? 5).map (·.size) = some 1 := by kernel_rfl
set_option maxRecDepth 100000 in
set_option maxHeartbeats 16000000 in
theorem reads_walk (A : Option Addr) (c : Nat) (l : List Int) (B : Option Addr) (d : Nat) (l2 : List Int) (w : World) (hr : Kd.C (Kd.int .u8) w A l.length l) (hc : l.length ≤ c) (hr2 : Kd.C (Kd.int .u8) w B l2.length l2) (hc2 : l2.length ≤ d) (hby : Bytes l) (hby2 : Bytes l2) (hm : l.length ≤ 140737488351232) :
    Calls Try.prog 4 #[.slice A l.length c, .slice B l2.length d] w fun e w' => e = .returned (.bool true) ∧ Below w.heap.size w w' := by
  obtain ⟨⟨ts, p1, k1⟩, hS⟩ : ∃ r, scanAll l = r := ⟨_, rfl⟩
  obtain ⟨⟨us, p2, k2⟩, hS2⟩ : ∃ r, scanAll l2 = r := ⟨_, rfl⟩
  obtain ⟨kr, hkr⟩ := ref_scan l hby
  obtain ⟨kr2, hkr2⟩ := ref_scan l2 hby2
  have htl := scan_len l
  have hul := scan_len l2
  rw [hS] at hkr htl
  rw [hS2] at hkr2 hul
  dsimp only at htl hul
  have HR := Aside0.mk hr
  have HR2 := Aside0.mk hr2
  have HC := Aside0.mk hc
  have HC2 := Aside0.mk hc2
  have HBY := Aside0.mk hby
  have HKR := Aside0.mk hkr
  have HKR2 := Aside0.mk hkr2
  have HS := Aside0.mk (show scan_Scan.f l = some (ts, p1, k1) by unfold scan_Scan.f; rw [hS])
  have HS2 := Aside0.mk (show scan_Scan.f l2 = some (us, p2, k2) by unfold scan_Scan.f; rw [hS2])
  have HTL := Aside0.mk htl
  have HUL := Aside0.mk hul
  obtain ⟨Z, hZ⟩ : ∃ Z, Z = ownB (List.replicate (l.length + 4) 0) := ⟨_, rfl⟩
  have hwr : IntKind.i64.wrap ((l.length : Int) + 4) = (l.length : Int) + 4 := Go.IntWalk.i64_in _ (by omega)
  have hmk : ∀ W : World, (Instr.makeSlice 26 (.int .i64 ((l.length : Int) + 4)) (.int .i64 ((l.length : Int) + 4))).run Try.prog W = .ok (.slice (some ⟨W.heap.size, 0, none⟩) (l.length + 4) (l.length + 4)) (W.alloc (.cells Z.toArray 5)) := fun W => by
    have h := make_own W (l.length + 4) (by omega)
    rw [Int.natCast_add] at h
    rw [hZ]
    exact h
  have HZ := Aside0.mk hZ
  clear hr hr2 hc hc2 hby hby2 hkr hkr2 hS hS2 htl hul hZ
  go_enter Try.func4, Try.ntmps4
  go_upto_region 3 with (go_at_call 8; refine (shown_any _).mono ?_; rintro e w1 ⟨rfl, hb1⟩; have HB1 := Aside0.mk hb1; clear hb1)
  have HBK : Aside0 (BkAt (w1.alloc (.cells #[.slice none 0 0, .slice none 0 0, .int .i64 0] 30)) w1.heap.size w.heap.size (.slice none 0 0) (.slice none 0 0) 0 [] []) := ⟨⟨HB1.out.size, heap_alloc_new _ _, Kd.R_nil _ _ _ _ _, Kd.R_nil _ _ _ _ _, fun k hk => by simp [Value.ownBlock] at hk⟩⟩
  have HB2 := Aside0.mk (below_alloc HB1.out (.cells #[.slice none 0 0, .slice none 0 0, .int .i64 0] 30))
  generalize w1.alloc (.cells #[.slice none 0 0, .slice none 0 0, .int .i64 0] 30) = w2 at HBK HB2 ⊢
  obtain ⟨gh, hgh⟩ : ∃ gh, gh = w1.heap.size := ⟨_, rfl⟩
  rw [← hgh] at HBK ⊢
  clear hgh HB1
  go_upto_region 5 with (fail)
  obtain ⟨go, hgo⟩ : ∃ go, go = w2.heap.size := ⟨_, rfl⟩
  rw [← hgo]
  have HO : Aside0 ((w2.alloc (.cells Z.toArray 5)).heap[go]? = some (.cells Z.toArray 5 (0, 0))) := ⟨by rw [hgo]; exact heap_alloc_new _ _⟩
  have HB3 := Aside0.mk (below_alloc (Below.refl _ w2) (.cells Z.toArray 5))
  have HGO := Aside0.mk hgo
  generalize w2.alloc (.cells Z.toArray 5) = w3 at HO HB3 ⊢
  clear hgo hmk
  have HCU := fun W => own_from W go l.length
  have HCT := fun W => own_to W go l.length
  go_upto_region 6 with ((with_reducible refine gate_dst (N := 38) rfl ?_); go_loud (refine wpList_copy_splice rfl (.tmp 36) (.tmp 37) 26 26 rfl 5 Try.underlying26 sz5 (some ⟨go, 0, none⟩) A (l.length + 4) (l.length + 4) l.length c rfl rfl go 0 Z 5 HO.out (ownB l) ?cN ?cP ?cF ?cO w2.heap.size w2 HB3.out ?cG ?_); (case cN => rw [ownB_len]; exact (Nat.min_eq_left (by omega)).symm); (case cP => intro hp; rw [ownB_len] at hp; obtain ⟨ad, e, hcl⟩ := C_cells (Kd.C_below HR.out (below_then HB2.out HB2.out.size HB3.out)) hp; exact ⟨rfl, ad, e, hcl⟩); (case cF => rw [HZ.out, ownB_len, ownB_len, List.length_replicate]; omega); (case cO => intro v hv; obtain ⟨x, _, rfl⟩ := List.mem_map.1 hv; rfl); (case cG => exact Nat.le_of_eq HGO.out.symm); intro w4 hg4 hb4; have HO4 : Aside0 (w4.heap[go]? = some (.cells (ownB (l ++ [0, 0, 0, 0])).toArray 5 (0, 0))) := ⟨by have := hg4.out; rw [HZ.out, spl0] at this; exact this⟩; have HB4 := Aside0.mk hb4; clear hg4 hb4)
  clear HO HB3
  go_upto_region 7 with ((with_reducible refine gate_dst (N := 42) rfl ?_); go_loud (refine Lib.wpList_copy_run _ rfl (.tmp 41) _ 26 9 rfl _ _ rfl rfl (copy4 _ go l HO4.out) ?_))
  obtain ⟨L, hL⟩ : ∃ L, L = l ++ [120, 120, 120, 120] := ⟨_, rfl⟩
  rw [← hL]
  have HLL : Aside0 (L.length = l.length + 4) := ⟨by rw [hL, List.length_append]; rfl⟩
  have HLT : Aside0 (L.take l.length = l) := ⟨by rw [hL, List.take_append_of_le_length (Nat.le_refl _), List.take_length]⟩
  have HL := Aside0.mk hL
  have HO5 : Aside0 ((w4.setRow go (ownB L).toArray).heap[go]? = some (.cells (ownB L).toArray 5 (0, 0))) := ⟨setRow_heap _ _ _ _ _ _ HO4.out⟩
  have HB5 : Aside0 (Below w2.heap.size w2 (w4.setRow go (ownB L).toArray)) := ⟨below_setRow HB4.out (Nat.le_of_eq HGO.out.symm) _⟩
  generalize w4.setRow go (ownB L).toArray = w5 at HO5 HB5 ⊢
  have HBK5 : Aside0 (BkAt w5 gh w.heap.size (.slice none 0 0) (.slice none 0 0) 0 [] []) := ⟨HBK.out.kt (KT.below HB5.out) (KT.below HB5.out)⟩
  have F5 : Aside0 (Fr w.heap.size w w5) := ⟨Fr.below (below_then HB2.out HB2.out.size HB5.out) (Nat.le_refl _)⟩
  have HBO : Aside0 (w.heap.size ≤ go) := ⟨by rw [HGO.out]; exact HB2.out.size⟩
  clear HO4 HB4 HBK HB2 HB5 HGO HZ hL HCU hwr
  have HSC : Aside0 (∀ W, Fr w.heap.size w5 W → Calls Try.prog 13 #[.slice (some ⟨go, 0, none⟩) l.length (l.length + 4)] W fun e w' => ∃ v0_ : Value, e = .returned (.tuple #[v0_, .agg #[.int .i64 p1, .int .i64 k1]]) ∧ Kd.R k40 40 w' W.heap.size (fun _ => True) v0_ ts ∧ Below W.heap.size W w') := ⟨fun W hF => by
    have h := ownB_C (n := l.length) (hF.blk HO5.out (by decide) (by decide)) (by have := HLL.out; omega) (by have := HLL.out; omega)
    rw [HLT.out] at h
    exact scan_Scan.calls _ (l.length + 4) l ts p1 k1 W h (by omega) HS.out⟩
  have HSC2 : Aside0 (∀ W, Fr w.heap.size w W → Calls Try.prog 13 #[.slice B l2.length d] W fun e w' => ∃ v0_ : Value, e = .returned (.tuple #[v0_, .agg #[.int .i64 p2, .int .i64 k2]]) ∧ Kd.R k40 40 w' W.heap.size (fun _ => True) v0_ us ∧ Below W.heap.size W w') := ⟨fun W hF => scan_Scan.calls B d l2 us p2 k2 W (hF.C HR2.out) HC2.out HS2.out⟩
  have HRC : Aside0 (∀ W, Fr w.heap.size w W → Calls Try.prog 14 #[.slice A l.length c] W fun e w' => ∃ v0_ : Value, e = .returned (.tuple #[v0_, .agg #[.int .i64 p1, .int .i64 k1]]) ∧ Kd.R k40 40 w' W.heap.size (fun _ => True) v0_ ts ∧ Below W.heap.size W w') := ⟨fun W hF => squintref01_Scan.calls kr A c l ts p1 k1 W (hF.C HR.out) HC.out HKR.out⟩
  have HRC2 : Aside0 (∀ W, Fr w.heap.size w W → Calls Try.prog 14 #[.slice B l2.length d] W fun e w' => ∃ v0_ : Value, e = .returned (.tuple #[v0_, .agg #[.int .i64 p2, .int .i64 k2]]) ∧ Kd.R k40 40 w' W.heap.size (fun _ => True) v0_ us ∧ Below W.heap.size W w') := ⟨fun W hF => squintref01_Scan.calls kr2 B d l2 us p2 k2 W (hF.C HR2.out) HC2.out HKR2.out⟩
  have D5 : Aside0 (Fr w.heap.size w5 w5) := ⟨Fr.refl _ _⟩
  go_upto_region 8 with (go_at_call 13; refine (HSC.out _ D5.out).mono ?_; rintro e u6 ⟨va, rfl, hR, hb⟩; obtain ⟨Aa, ca, rfl⟩ := Kd.R_slice hR; have HU := Aside0.mk hb; have HRU := Aside0.mk hR; clear hR hb)
  obtain ⟨ga, hg⟩ : ∃ g_, g_ = u6.heap.size := ⟨_, rfl⟩
  rw [← hg]
  have Ga : Aside0 ((u6.alloc (.cells #[.int .i64 p1, .int .i64 k1] 34)).heap[ga]? = some (.cells #[.int .i64 p1, .int .i64 k1] 34 (0, 0))) := ⟨by rw [hg]; exact heap_alloc_new _ _⟩
  have Ra : Aside0 (Kd.R k40 40 (u6.alloc (.cells #[.int .i64 p1, .int .i64 k1] 34)) w5.heap.size Any (.slice Aa ts.length ca) ts) := ⟨Kd.R_alloc HRU.out _⟩
  have BB := Aside0.mk (below_alloc HU.out (.cells #[.int .i64 p1, .int .i64 k1] 34))
  generalize u6.alloc (.cells #[.int .i64 p1, .int .i64 k1] 34) = w6 at Ga Ra BB ⊢
  have E6 : Aside0 (Fr w.heap.size w5 w6) := ⟨Fr.below BB.out F5.out.size⟩
  have F6 := Aside0.mk (F5.out.trans E6.out)
  have D6 := Aside0.mk (D5.out.trans E6.out)
  have Sa : Aside0 (Span w5.heap.size w6.heap.size (.slice Aa ts.length ca)) := ⟨Span.of Ra.out⟩
  have HBK6 : Aside0 (BkAt w6 gh w.heap.size (.slice none 0 0) (.slice none 0 0) 0 [] []) := ⟨HBK5.out.kt (KT.below BB.out) (KT.below BB.out)⟩
  have Pa : Aside0 (w.heap.size ≤ ga) := ⟨by rw [hg]; exact Nat.le_trans F5.out.size HU.out.size⟩
  have Qa : Aside0 (w5.heap.size ≤ ga ∧ ga < w6.heap.size) := ⟨⟨by rw [hg]; exact HU.out.size, blk_lt Ga.out⟩⟩
  clear HU HRU hg BB HBK5
  go_upto_region 9 with (go_at_call 13; refine (HSC2.out _ F6.out).mono ?_; rintro e u7 ⟨vb, rfl, hR, hb⟩; obtain ⟨Ab, cb, rfl⟩ := Kd.R_slice hR; have HU := Aside0.mk hb; have HRU := Aside0.mk hR; clear hR hb)
  obtain ⟨gb, hg⟩ : ∃ g_, g_ = u7.heap.size := ⟨_, rfl⟩
  rw [← hg]
  have Gb : Aside0 ((u7.alloc (.cells #[.int .i64 p2, .int .i64 k2] 34)).heap[gb]? = some (.cells #[.int .i64 p2, .int .i64 k2] 34 (0, 0))) := ⟨by rw [hg]; exact heap_alloc_new _ _⟩
  have Rb : Aside0 (Kd.R k40 40 (u7.alloc (.cells #[.int .i64 p2, .int .i64 k2] 34)) w6.heap.size Any (.slice Ab us.length cb) us) := ⟨Kd.R_alloc HRU.out _⟩
  have BB := Aside0.mk (below_alloc HU.out (.cells #[.int .i64 p2, .int .i64 k2] 34))
  generalize u7.alloc (.cells #[.int .i64 p2, .int .i64 k2] 34) = w7 at Gb Rb BB ⊢
  have E7 : Aside0 (Fr w.heap.size w6 w7) := ⟨Fr.below BB.out F6.out.size⟩
  have F7 := Aside0.mk (F6.out.trans E7.out)
  have D7 := Aside0.mk (D6.out.trans E7.out)
  have Sb : Aside0 (Span w6.heap.size w7.heap.size (.slice Ab us.length cb)) := ⟨Span.of Rb.out⟩
  have HBK7 : Aside0 (BkAt w7 gh w.heap.size (.slice none 0 0) (.slice none 0 0) 0 [] []) := ⟨HBK6.out.kt (KT.below BB.out) (KT.below BB.out)⟩
  have Pb : Aside0 (w.heap.size ≤ gb) := ⟨by rw [hg]; exact Nat.le_trans F6.out.size HU.out.size⟩
  have Qb : Aside0 (w6.heap.size ≤ gb ∧ gb < w7.heap.size) := ⟨⟨by rw [hg]; exact HU.out.size, blk_lt Gb.out⟩⟩
  clear HU HRU hg BB HBK6
  go_upto_region 10 with (go_at_call 13; refine (HSC.out _ D7.out).mono ?_; rintro e u8 ⟨vc, rfl, hR, hb⟩; obtain ⟨Ac, cc, rfl⟩ := Kd.R_slice hR; have HU := Aside0.mk hb; have HRU := Aside0.mk hR; clear hR hb)
  obtain ⟨gc, hg⟩ : ∃ g_, g_ = u8.heap.size := ⟨_, rfl⟩
  rw [← hg]
  have Gc : Aside0 ((u8.alloc (.cells #[.int .i64 p1, .int .i64 k1] 34)).heap[gc]? = some (.cells #[.int .i64 p1, .int .i64 k1] 34 (0, 0))) := ⟨by rw [hg]; exact heap_alloc_new _ _⟩
  have Rc : Aside0 (Kd.R k40 40 (u8.alloc (.cells #[.int .i64 p1, .int .i64 k1] 34)) w7.heap.size Any (.slice Ac ts.length cc) ts) := ⟨Kd.R_alloc HRU.out _⟩
  have BB := Aside0.mk (below_alloc HU.out (.cells #[.int .i64 p1, .int .i64 k1] 34))
  generalize u8.alloc (.cells #[.int .i64 p1, .int .i64 k1] 34) = w8 at Gc Rc BB ⊢
  have E8 : Aside0 (Fr w.heap.size w7 w8) := ⟨Fr.below BB.out F7.out.size⟩
  have F8 := Aside0.mk (F7.out.trans E8.out)
  have D8 := Aside0.mk (D7.out.trans E8.out)
  have Sc : Aside0 (Span w7.heap.size w8.heap.size (.slice Ac ts.length cc)) := ⟨Span.of Rc.out⟩
  have HBK8 : Aside0 (BkAt w8 gh w.heap.size (.slice none 0 0) (.slice none 0 0) 0 [] []) := ⟨HBK7.out.kt (KT.below BB.out) (KT.below BB.out)⟩
  have Pc : Aside0 (w.heap.size ≤ gc) := ⟨by rw [hg]; exact Nat.le_trans F7.out.size HU.out.size⟩
  have Qc : Aside0 (w7.heap.size ≤ gc ∧ gc < w8.heap.size) := ⟨⟨by rw [hg]; exact HU.out.size, blk_lt Gc.out⟩⟩
  clear HU HRU hg BB HBK7
  go_upto_region 11 with (go_at_call 14; refine (HRC.out _ F8.out).mono ?_; rintro e u9 ⟨vx, rfl, hR, hb⟩; obtain ⟨Ax, cx, rfl⟩ := Kd.R_slice hR; have HU := Aside0.mk hb; have HRU := Aside0.mk hR; clear hR hb)
  obtain ⟨gx, hg⟩ : ∃ g_, g_ = u9.heap.size := ⟨_, rfl⟩
  rw [← hg]
  have Gx : Aside0 ((u9.alloc (.cells #[.int .i64 p1, .int .i64 k1] 34)).heap[gx]? = some (.cells #[.int .i64 p1, .int .i64 k1] 34 (0, 0))) := ⟨by rw [hg]; exact heap_alloc_new _ _⟩
  have Rx : Aside0 (Kd.R k40 40 (u9.alloc (.cells #[.int .i64 p1, .int .i64 k1] 34)) w8.heap.size Any (.slice Ax ts.length cx) ts) := ⟨Kd.R_alloc HRU.out _⟩
  have BB := Aside0.mk (below_alloc HU.out (.cells #[.int .i64 p1, .int .i64 k1] 34))
  generalize u9.alloc (.cells #[.int .i64 p1, .int .i64 k1] 34) = w9 at Gx Rx BB ⊢
  have E9 : Aside0 (Fr w.heap.size w8 w9) := ⟨Fr.below BB.out F8.out.size⟩
  have F9 := Aside0.mk (F8.out.trans E9.out)
  have D9 := Aside0.mk (D8.out.trans E9.out)
  have Sx : Aside0 (Span w8.heap.size w9.heap.size (.slice Ax ts.length cx)) := ⟨Span.of Rx.out⟩
  have HBK9 : Aside0 (BkAt w9 gh w.heap.size (.slice none 0 0) (.slice none 0 0) 0 [] []) := ⟨HBK8.out.kt (KT.below BB.out) (KT.below BB.out)⟩
  have Px : Aside0 (w.heap.size ≤ gx) := ⟨by rw [hg]; exact Nat.le_trans F8.out.size HU.out.size⟩
  have Qx : Aside0 (w8.heap.size ≤ gx ∧ gx < w9.heap.size) := ⟨⟨by rw [hg]; exact HU.out.size, blk_lt Gx.out⟩⟩
  clear HU HRU hg BB HBK8
  go_upto_region 12 with (go_at_call 14; refine (HRC2.out _ F9.out).mono ?_; rintro e u10 ⟨vy, rfl, hR, hb⟩; obtain ⟨Ay, cy, rfl⟩ := Kd.R_slice hR; have HU := Aside0.mk hb; have HRU := Aside0.mk hR; clear hR hb)
  obtain ⟨gy, hg⟩ : ∃ g_, g_ = u10.heap.size := ⟨_, rfl⟩
  rw [← hg]
  have Gy : Aside0 ((u10.alloc (.cells #[.int .i64 p2, .int .i64 k2] 34)).heap[gy]? = some (.cells #[.int .i64 p2, .int .i64 k2] 34 (0, 0))) := ⟨by rw [hg]; exact heap_alloc_new _ _⟩
  have Ry : Aside0 (Kd.R k40 40 (u10.alloc (.cells #[.int .i64 p2, .int .i64 k2] 34)) w9.heap.size Any (.slice Ay us.length cy) us) := ⟨Kd.R_alloc HRU.out _⟩
  have BB := Aside0.mk (below_alloc HU.out (.cells #[.int .i64 p2, .int .i64 k2] 34))
  generalize u10.alloc (.cells #[.int .i64 p2, .int .i64 k2] 34) = w10 at Gy Ry BB ⊢
  have E10 : Aside0 (Fr w.heap.size w9 w10) := ⟨Fr.below BB.out F9.out.size⟩
  have F10 := Aside0.mk (F9.out.trans E10.out)
  have D10 := Aside0.mk (D9.out.trans E10.out)
  have Sy : Aside0 (Span w9.heap.size w10.heap.size (.slice Ay us.length cy)) := ⟨Span.of Ry.out⟩
  have HBK10 : Aside0 (BkAt w10 gh w.heap.size (.slice none 0 0) (.slice none 0 0) 0 [] []) := ⟨HBK9.out.kt (KT.below BB.out) (KT.below BB.out)⟩
  have Py : Aside0 (w.heap.size ≤ gy) := ⟨by rw [hg]; exact Nat.le_trans F9.out.size HU.out.size⟩
  have Qy : Aside0 (w9.heap.size ≤ gy ∧ gy < w10.heap.size) := ⟨⟨by rw [hg]; exact HU.out.size, blk_lt Gy.out⟩⟩
  clear HU HRU hg BB HBK9
  have n0_ := Aside0.mk ((((E7.out.trans E8.out).trans E9.out).trans E10.out).blk Ga.out (by decide) (by decide))
  have n1_ := Aside0.mk ((((E7.out.trans E8.out).trans E9.out).trans E10.out).R Ra.out)
  clear Ga Ra
  have Ga := n0_
  have Ra := n1_
  clear n0_ n1_
  have n0_ := Aside0.mk (((E8.out.trans E9.out).trans E10.out).blk Gb.out (by decide) (by decide))
  have n1_ := Aside0.mk (((E8.out.trans E9.out).trans E10.out).R Rb.out)
  clear Gb Rb
  have Gb := n0_
  have Rb := n1_
  clear n0_ n1_
  have n0_ := Aside0.mk ((E9.out.trans E10.out).blk Gc.out (by decide) (by decide))
  have n1_ := Aside0.mk ((E9.out.trans E10.out).R Rc.out)
  clear Gc Rc
  have Gc := n0_
  have Rc := n1_
  clear n0_ n1_
  have n0_ := Aside0.mk (E10.out.blk Gx.out (by decide) (by decide))
  have n1_ := Aside0.mk (E10.out.R Rx.out)
  clear Gx Rx
  have Gx := n0_
  have Rx := n1_
  clear n0_ n1_
  have n0_ := Aside0.mk (Kd.R_lower Ra.out F5.out.size)
  clear Ra
  have Ra := n0_
  clear n0_
  have n0_ := Aside0.mk (Kd.R_lower Rb.out F6.out.size)
  clear Rb
  have Rb := n0_
  clear n0_
  have n0_ := Aside0.mk (Kd.R_lower Rc.out F7.out.size)
  clear Rc
  have Rc := n0_
  clear n0_
  have n0_ := Aside0.mk (Kd.R_lower Rx.out F8.out.size)
  clear Rx
  have Rx := n0_
  clear n0_
  have n0_ := Aside0.mk (Kd.R_lower Ry.out F9.out.size)
  clear Ry
  have Ry := n0_
  clear n0_
  have KT1 := Aside0.mk (sameT_self ts (by have := HTL.out; omega))
  have KU1 := Aside0.mk (sameT_self us (by have := HUL.out; omega))
  go_upto_region 13 with (go_at_call 15; go_loud (refine (keep_any gh w.heap.size Aa Ax ca cx ts (.slice none 0 0) (.slice none 0 0) 0 [] [] _ HBK10.out Ra.out Rx.out KT1.out (by have := HTL.out; omega) (by simp) F10.out.size).mono ?_); rintro e w11 ⟨rfl, vo11, vw11, ma, hbk, hR, hbl, hkx⟩; have HBK11 := Aside0.mk hbk; have Ma := Aside0.mk hR; have E11 : Aside0 (Fr w.heap.size w10 w11) := ⟨⟨hbl, hkx⟩⟩; clear hbk hR hbl hkx)
  have F11 := Aside0.mk (F10.out.trans E11.out)
  have D11 := Aside0.mk (D10.out.trans E11.out)
  have Ta : Aside0 (Span w10.heap.size w11.heap.size ma) := ⟨Span.of Ma.out⟩
  clear HBK10
  have n0_ := Aside0.mk (E11.out.blk Ga.out (by decide) (by decide))
  have n1_ := Aside0.mk (E11.out.R Ra.out)
  clear Ga Ra
  have Ga := n0_
  have Ra := n1_
  clear n0_ n1_
  have n0_ := Aside0.mk (E11.out.blk Gb.out (by decide) (by decide))
  have n1_ := Aside0.mk (E11.out.R Rb.out)
  clear Gb Rb
  have Gb := n0_
  have Rb := n1_
  clear n0_ n1_
  have n0_ := Aside0.mk (E11.out.blk Gc.out (by decide) (by decide))
  have n1_ := Aside0.mk (E11.out.R Rc.out)
  clear Gc Rc
  have Gc := n0_
  have Rc := n1_
  clear n0_ n1_
  have n0_ := Aside0.mk (E11.out.blk Gx.out (by decide) (by decide))
  have n1_ := Aside0.mk (E11.out.R Rx.out)
  clear Gx Rx
  have Gx := n0_
  have Rx := n1_
  clear n0_ n1_
  have n0_ := Aside0.mk (E11.out.blk Gy.out (by decide) (by decide))
  have n1_ := Aside0.mk (E11.out.R Ry.out)
  clear Gy Ry
  have Gy := n0_
  have Ry := n1_
  clear n0_ n1_
  go_upto_region 14 with (go_at_call 15; go_loud (refine (keep_any gh w.heap.size Ab Ay cb cy us vo11 vw11 0 ([] ++ [(.slice Aa ts.length ca)]) ([] ++ [ma]) _ HBK11.out Rb.out Ry.out KU1.out (by have := HUL.out; omega) (by simp) F11.out.size).mono ?_); rintro e w12 ⟨rfl, vo12, vw12, mb, hbk, hR, hbl, hkx⟩; have HBK12 := Aside0.mk hbk; have Mb := Aside0.mk hR; have E12 : Aside0 (Fr w.heap.size w11 w12) := ⟨⟨hbl, hkx⟩⟩; clear hbk hR hbl hkx)
  have F12 := Aside0.mk (F11.out.trans E12.out)
  have D12 := Aside0.mk (D11.out.trans E12.out)
  have Tb : Aside0 (Span w11.heap.size w12.heap.size mb) := ⟨Span.of Mb.out⟩
  clear HBK11
  have n0_ := Aside0.mk (E12.out.blk Ga.out (by decide) (by decide))
  have n1_ := Aside0.mk (E12.out.R Ra.out)
  clear Ga Ra
  have Ga := n0_
  have Ra := n1_
  clear n0_ n1_
  have n0_ := Aside0.mk (E12.out.blk Gb.out (by decide) (by decide))
  have n1_ := Aside0.mk (E12.out.R Rb.out)
  clear Gb Rb
  have Gb := n0_
  have Rb := n1_
  clear n0_ n1_
  have n0_ := Aside0.mk (E12.out.blk Gc.out (by decide) (by decide))
  have n1_ := Aside0.mk (E12.out.R Rc.out)
  clear Gc Rc
  have Gc := n0_
  have Rc := n1_
  clear n0_ n1_
  have n0_ := Aside0.mk (E12.out.blk Gx.out (by decide) (by decide))
  have n1_ := Aside0.mk (E12.out.R Rx.out)
  clear Gx Rx
  have Gx := n0_
  have Rx := n1_
  clear n0_ n1_
  have n0_ := Aside0.mk (E12.out.blk Gy.out (by decide) (by decide))
  have n1_ := Aside0.mk (E12.out.R Ry.out)
  clear Gy Ry
  have Gy := n0_
  have Ry := n1_
  clear n0_ n1_
  go_upto_region 15 with (go_at_call 15; go_loud (refine (keep_any gh w.heap.size Ac Ax cc cx ts vo12 vw12 0 (([] ++ [(.slice Aa ts.length ca)]) ++ [(.slice Ab us.length cb)]) (([] ++ [ma]) ++ [mb]) _ HBK12.out Rc.out Rx.out KT1.out (by have := HTL.out; omega) (by simp) F12.out.size).mono ?_); rintro e w13 ⟨rfl, vo13, vw13, mc, hbk, hR, hbl, hkx⟩; have HBK13 := Aside0.mk hbk; have Mc := Aside0.mk hR; have E13 : Aside0 (Fr w.heap.size w12 w13) := ⟨⟨hbl, hkx⟩⟩; clear hbk hR hbl hkx)
  have F13 := Aside0.mk (F12.out.trans E13.out)
  have D13 := Aside0.mk (D12.out.trans E13.out)
  have Tc : Aside0 (Span w12.heap.size w13.heap.size mc) := ⟨Span.of Mc.out⟩
  clear HBK12
  have n0_ := Aside0.mk (E13.out.blk Ga.out (by decide) (by decide))
  have n1_ := Aside0.mk (E13.out.R Ra.out)
  clear Ga Ra
  have Ga := n0_
  have Ra := n1_
  clear n0_ n1_
  have n0_ := Aside0.mk (E13.out.blk Gb.out (by decide) (by decide))
  have n1_ := Aside0.mk (E13.out.R Rb.out)
  clear Gb Rb
  have Gb := n0_
  have Rb := n1_
  clear n0_ n1_
  have n0_ := Aside0.mk (E13.out.blk Gc.out (by decide) (by decide))
  have n1_ := Aside0.mk (E13.out.R Rc.out)
  clear Gc Rc
  have Gc := n0_
  have Rc := n1_
  clear n0_ n1_
  have n0_ := Aside0.mk (E13.out.blk Gx.out (by decide) (by decide))
  have n1_ := Aside0.mk (E13.out.R Rx.out)
  clear Gx Rx
  have Gx := n0_
  have Rx := n1_
  clear n0_ n1_
  have n0_ := Aside0.mk (E13.out.blk Gy.out (by decide) (by decide))
  have n1_ := Aside0.mk (E13.out.R Ry.out)
  clear Gy Ry
  have Gy := n0_
  have Ry := n1_
  clear n0_ n1_
  have HO13 := Aside0.mk (D13.out.blk HO5.out (by decide) (by decide))
  have hcv1 : (convert 26 9 (.slice (some ⟨go, 0, none⟩) (l.length + 4) (l.length + 4))).run Try.prog w13 = .ok (.string (strOfNums L)) w13 := by
    have h := conv_take (c := l.length + 4) (ownB_full HO13.out (by have := HLL.out; omega)) L.length (Nat.le_refl _)
    rw [List.take_length, HLL.out] at h
    exact h
  have hcv2 : (convert 26 9 (.slice A l.length c)).run Try.prog w13 = .ok (.string (strOfNums l)) w13 := by
    have h := conv_take (c := c) (F13.out.C HR.out) l.length (Nat.le_refl _)
    rw [List.take_length] at h
    exact h
  have hst : strOfNums l ++ (⟨#[120, 120, 120, 120]⟩ : ByteArray) = strOfNums L := by
    rw [HL.out]
    exact str_app l
  have ya0 : w13.cell? ⟨ga, 0, none⟩ = some (.int .i64 p1) := (blk_cell Ga.out 0).trans rfl
  have ya1 : w13.cell? ⟨ga, 1, none⟩ = some (.int .i64 k1) := (blk_cell Ga.out 1).trans rfl
  have yb0 : w13.cell? ⟨gb, 0, none⟩ = some (.int .i64 p2) := (blk_cell Gb.out 0).trans rfl
  have yb1 : w13.cell? ⟨gb, 1, none⟩ = some (.int .i64 k2) := (blk_cell Gb.out 1).trans rfl
  have yc0 : w13.cell? ⟨gc, 0, none⟩ = some (.int .i64 p1) := (blk_cell Gc.out 0).trans rfl
  have yc1 : w13.cell? ⟨gc, 1, none⟩ = some (.int .i64 k1) := (blk_cell Gc.out 1).trans rfl
  have yx0 : w13.cell? ⟨gx, 0, none⟩ = some (.int .i64 p1) := (blk_cell Gx.out 0).trans rfl
  have yx1 : w13.cell? ⟨gx, 1, none⟩ = some (.int .i64 k1) := (blk_cell Gx.out 1).trans rfl
  have yy0 : w13.cell? ⟨gy, 0, none⟩ = some (.int .i64 p2) := (blk_cell Gy.out 0).trans rfl
  have yy1 : w13.cell? ⟨gy, 1, none⟩ = some (.int .i64 k2) := (blk_cell Gy.out 1).trans rfl
  have hsz : ¬ 9223372036854775807 < (strOfNums l).size + 4 := by rw [strOfNums_size]; omega
  go_upto_region 17 with (fail)
  clear hsz hst hcv1 hcv2 ya0 ya1 yb0 yb1 yc0 yc1 yx0 yx1 yy0 yy1
  have HLN := Aside0.mk hm
  go_wp2_with (fail)
  go_loopw [22] (fun v22 wr => ∃ k : Nat, v22 = .int .i64 k ∧ k ≤ l.length ∧ Aside0 (wr.heap[go]? = some (.cells (ownB (swB L k)).toArray 5 (0, 0))) ∧ Aside0 (Fo 5 w.heap.size w13 wr)) (fun v22 _ => l.length - (intOf v22).toNat)
  case atStart => exact ⟨0, rfl, by omega, ⟨by rw [swB_zero]; exact HO13.out⟩, ⟨Fo.refl _ _ _⟩⟩
  case round =>
    obtain ⟨k, rfl, hk, HOB, HFO⟩ := hrel
    by_cases hlt : k < l.length
    · have hkL : k < L.length := by have := HLL.out; omega
      have hcell : wr.cell? ⟨go, k, none⟩ = some (.int .u8 L[k]) := by
        rw [blk_cell HOB.out, List.getElem?_toArray, ownB, List.getElem?_map, swB_get L k hkL]
        rfl
      have hfz : wr.frozen? ⟨go, k, none⟩ = false := blk_frozen HOB.out k
      have HKL := Aside0.mk hkL
      obtain ⟨ck, hck⟩ : ∃ ck, ck = L[k] := ⟨_, rfl⟩
      rw [← hck] at hcell
      have HCK : Aside0 (ck = L[k]'HKL.out) := ⟨hck⟩
      clear hck hkL
      by_cases h32 : ck = 32
      · have e32 : (ck == 32) = true := beq_iff_eq.2 h32
        have HU : Aside0 ((43 : Int) = sw (L[k]'HKL.out)) := ⟨by rw [← HCK.out, h32]; rfl⟩
        subst h32
        go_wp2_with (fail)
        go_roundw
        case rel => exact ⟨k + 1, by go_num, by omega, ⟨by rw [← swB_set L k HKL.out 43 HU.out]; exact blk_set HOB.out k _⟩, ⟨HFO.out.set HOB.out HBO.out _ _⟩⟩
        case measure => simp [intOf]; omega
      · by_cases h43 : ck = 43
        · have e32 : (ck == 32) = false := beq_eq_false_iff_ne.2 h32
          have e43 : (ck == 43) = true := beq_iff_eq.2 h43
          have HU : Aside0 ((32 : Int) = sw (L[k]'HKL.out)) := ⟨by rw [← HCK.out, h43]; rfl⟩
          subst h43
          go_wp2_with (fail)
          go_roundw
          case rel => exact ⟨k + 1, by go_num, by omega, ⟨by rw [← swB_set L k HKL.out 32 HU.out]; exact blk_set HOB.out k _⟩, ⟨HFO.out.set HOB.out HBO.out _ _⟩⟩
          case measure => simp [intOf]; omega
        · have e32 : (ck == 32) = false := beq_eq_false_iff_ne.2 h32
          have e43 : (ck == 43) = false := beq_eq_false_iff_ne.2 h43
          have HU : Aside0 (sw (L[k]'HKL.out) = L[k]'HKL.out) := ⟨by rw [← HCK.out]; unfold sw; rw [if_neg h32, if_neg h43]⟩
          clear h32 h43
          go_wp2_with (fail)
          go_roundw
          case rel => exact ⟨k + 1, by go_num, by omega, ⟨by rw [swB_same L k HKL.out HU.out]; exact HOB.out⟩, HFO⟩
          case measure => simp [intOf]; omega
    · obtain rfl : k = l.length := by omega
      obtain ⟨l3, hl3⟩ : ∃ l3, l3 = l.map sw := ⟨_, rfl⟩
      have hn3 : l3.length = l.length := by rw [hl3, List.length_map]
      have hby3 : Bytes l3 := by rw [hl3]; exact sw_bytes l HBY.out
      have hlt3 : (swB L l.length).take l.length = l3 := by
        unfold swB
        rw [HLT.out, hl3, List.take_append_of_le_length (by rw [List.length_map]; exact Nat.le_refl _), List.take_of_length_le (by rw [List.length_map]; exact Nat.le_refl _)]
      have hoc := ownB_C (n := l.length) HOB.out (by rw [swB_len]; have := HLL.out; omega) (by rw [swB_len]; have := HLL.out; omega)
      rw [hlt3] at hoc
      obtain ⟨⟨ds, p3, k3⟩, hS3⟩ : ∃ r, scanAll l3 = r := ⟨_, rfl⟩
      obtain ⟨kr3, hkr3⟩ := ref_scan l3 hby3
      have hdl := scan_len l3
      rw [hS3] at hkr3 hdl
      dsimp only at hdl
      have HN3 := Aside0.mk hn3
      have HOC := Aside0.mk hoc
      have HKR3 := Aside0.mk hkr3
      have HDL := Aside0.mk hdl
      have HS3 := Aside0.mk (show scan_Scan.f l3 = some (ds, p3, k3) by unfold scan_Scan.f; rw [hS3])
      clear hl3 hn3 hby3 hlt3 hoc hkr3 hdl hS3 hlt hk
      have HSC3 : Aside0 (∀ W, Below wr.heap.size wr W → Calls Try.prog 13 #[.slice (some ⟨go, 0, none⟩) l.length (l.length + 4)] W fun e w' => ∃ v0_ : Value, e = .returned (.tuple #[v0_, .agg #[.int .i64 p3, .int .i64 k3]]) ∧ Kd.R k40 40 w' W.heap.size (fun _ => True) v0_ ds ∧ Below W.heap.size W w') := ⟨fun W hF => by
        have h := scan_Scan.calls (some ⟨go, 0, none⟩) (l.length + 4) l3 ds p3 k3 W (Kd.C_below HOC.out hF) (by have := HN3.out; omega) HS3.out
        rw [HN3.out] at h
        exact h⟩
      have HOC2 : Aside0 (Kd.C (Kd.int .u8) wr (some ⟨go, 0, none⟩) l.length l3) := ⟨by have := HOC.out; rw [HN3.out] at this; exact this⟩
      go_upto_region 25 with (first
        | ((with_reducible refine gate_dst (N := 142) rfl ?_); go_loud (refine Kd.R_lit (Kd.int .u8) (w0 := wr) wr.heap.size 5 ?hg (N := 142) ?hd (xs := ([] : List Int)) (inner := []) (ok := fun _ => True) (okp := fun _ => True) ?hr ?hp (fun _ hk => hk) trivial (Below.refl _ _) (Nat.le_refl _) (by simp) ?_); (case hd => rfl); (case hg => rfl); (case hr => first | (go_simp; done) | (go_simp; rfl)); (case hp => exact (Reps.none _ _)); intro vA wA hoA hbA _ _; have HOA := Aside0.mk hoA; have HBA := Aside0.mk hbA; clear hoA hbA)
        | ((with_reducible refine gate_builtin (b := .append) (xs := #[.tmp 142, .tmp 145]) rfl ?_); at_builtin; go_loud (refine Kd.R_append_rows (Kd.int .u8) (w0 := wr) wr.heap.size rfl (.tmp 142) (.tmp 145) 26 5 (.int .u8 0) 1 rfl Try.underlying26 info5 rfl (by decide) (by omega) vA ([] : List Int) l3 _ l.length _ (fun _ => True) (fun _ => False) rfl rfl ?aO ?aR (fun _ _ h => h) (fun _ h => h.elim) ?aF ?aB ?aS ?aL ?_); (case aR => exact Kd.C_below HOC2.out HBA.out); (case aB => exact HBA.out); (case aF => exact (fun _ _ => trivial)); (case aO => exact HOA.out); (case aS => exact HBA.out.size); (case aL => have := HN3.out; have := HLN.out; simp; omega); intro vB wB hoB hbB _ _; have HOT : Aside0 (Kd.R (Kd.int .u8) 5 wB wr.heap.size (fun _ => True) vB l3) := ⟨hoB⟩; have HBB := Aside0.mk hbB; clear hoB hbB))
      clear HOA HBA
      have RO := Aside0.mk (HFO.out.blk Ga.out (by decide))
      have RP := Aside0.mk (HFO.out.blk Gb.out (by decide))
      go_upto_region 26 with (first
        | (go_at_call 13; refine (HSC3.out _ HBB.out).mono ?_; rintro e u15 ⟨vd, rfl, hR, hb⟩; obtain ⟨Ad, cd, rfl⟩ := Kd.R_slice hR; have HU := Aside0.mk hb; have HRU := Aside0.mk hR; have RQ := Aside0.mk (blk_below (blk_below RO.out HBB.out) hb); clear hR hb)
        | (refine wpList_store_row rfl 34 (.tmp 10) (.tmp 153) rfl ga #[.int .i64 p3, .int .i64 k3] rfl rfl 34 _ RQ.out (by kernel_rfl) rfl (by kernel_rfl) ?_))
      obtain ⟨At, ct, rfl⟩ := Kd.R_slice HOT.out
      have X2 : Aside0 (Fo 34 w.heap.size wr (u15.setRow ga #[.int .i64 p3, .int .i64 k3])) := ⟨(Fo.below (below_then HBB.out HBB.out.size HU.out) (Nat.le_trans F13.out.size HFO.out.1.size)).row RQ.out Pa.out _⟩
      have G3 : Aside0 ((u15.setRow ga #[.int .i64 p3, .int .i64 k3]).heap[ga]? = some (.cells #[.int .i64 p3, .int .i64 k3] 34 (0, 0))) := ⟨setRow_heap _ _ _ _ _ _ RQ.out⟩
      have Rd : Aside0 (Kd.R k40 40 (u15.setRow ga #[.int .i64 p3, .int .i64 k3]) wB.heap.size Any (.slice Ad ds.length cd) ds) := ⟨R_kt rfl HRU.out (KT.row RQ.out (by decide) _)⟩
      have HT3 : Aside0 (Kd.R (Kd.int .u8) 5 (u15.setRow ga #[.int .i64 p3, .int .i64 k3]) wr.heap.size (fun _ => True) (.slice At l3.length ct) l3) := ⟨R_kt rfl (Kd.R_below HOT.out HU.out) (KT.row RQ.out (by decide) _)⟩
      have ZB : Aside0 (wB.heap.size ≤ (u15.setRow ga #[.int .i64 p3, .int .i64 k3]).heap.size) := ⟨by have := HU.out.size; simpa [World.setRow] using this⟩
      have hne : gb ≠ ga := by have h1 := Qa.out.2; have h2 := Qb.out.1; omega
      have HNE := Aside0.mk hne
      have G4 : Aside0 ((u15.setRow ga #[.int .i64 p3, .int .i64 k3]).heap[gb]? = some (.cells #[.int .i64 p2, .int .i64 k2] 34 (0, 0))) := ⟨(setRow_other u15 ga gb _ hne).trans (blk_below (blk_below RP.out HBB.out) HU.out)⟩
      clear hne
      generalize u15.setRow ga #[.int .i64 p3, .int .i64 k3] = w15 at X2 G3 G4 Rd HT3 ZB ⊢
      have Sd : Aside0 (Span wB.heap.size w15.heap.size (.slice Ad ds.length cd)) := ⟨Span.of Rd.out⟩
      clear RQ HRU HU HOT
      have X0 : Aside0 (Below w.heap.size w w15) := ⟨F13.out.1.trans (HFO.out.1.trans X2.out.1)⟩
      go_upto_region 27 with (first
        | (go_at_call 14; refine (squintref01_Scan.calls kr3 At ct l3 ds p3 k3 w15 (Kd.R_reads' HT3.out).2.2 (Kd.R_reads' HT3.out).2.1 HKR3.out).mono ?_; rintro e u16 ⟨vn, rfl, hR, hb⟩; obtain ⟨An, cn, rfl⟩ := Kd.R_slice hR; have HU := Aside0.mk hb; have HRU := Aside0.mk hR; have RQ := Aside0.mk (blk_below G4.out hb); clear hR hb)
        | (refine wpList_store_row rfl 34 (.tmp 12) (.tmp 158) rfl gb #[.int .i64 p3, .int .i64 k3] rfl rfl 34 _ RQ.out (by kernel_rfl) rfl (by kernel_rfl) ?_))
      have X3 : Aside0 (Fo 34 w.heap.size w15 (u16.setRow gb #[.int .i64 p3, .int .i64 k3])) := ⟨(Fo.below HU.out X0.out.size).row RQ.out Pb.out _⟩
      have G5 : Aside0 ((u16.setRow gb #[.int .i64 p3, .int .i64 k3]).heap[ga]? = some (.cells #[.int .i64 p3, .int .i64 k3] 34 (0, 0))) := ⟨(setRow_other u16 gb ga _ (Ne.symm HNE.out)).trans (blk_below G3.out HU.out)⟩
      have G6 : Aside0 ((u16.setRow gb #[.int .i64 p3, .int .i64 k3]).heap[gb]? = some (.cells #[.int .i64 p3, .int .i64 k3] 34 (0, 0))) := ⟨setRow_heap _ _ _ _ _ _ RQ.out⟩
      have Rn : Aside0 (Kd.R k40 40 (u16.setRow gb #[.int .i64 p3, .int .i64 k3]) w.heap.size Any (.slice An ds.length cn) ds) := ⟨Kd.R_lower (R_kt rfl HRU.out (KT.row RQ.out (by decide) _)) X0.out.size⟩
      have Z16 : Aside0 (w15.heap.size ≤ (u16.setRow gb #[.int .i64 p3, .int .i64 k3]).heap.size) := ⟨by have := HU.out.size; simpa [World.setRow] using this⟩
      generalize u16.setRow gb #[.int .i64 p3, .int .i64 k3] = w16 at X3 G5 G6 Rn Z16 ⊢
      clear RQ HRU HU HT3 G3 G4
      have HBK16 := Aside0.mk (X3.out.bk (by decide) (by decide) (X2.out.bk (by decide) (by decide) (HFO.out.bk (by decide) (by decide) HBK13.out)))
      have X4 : Aside0 (Below w.heap.size w w16) := ⟨X0.out.trans X3.out.1⟩
      have ra16 := Aside0.mk (X3.out.R (by decide) (X2.out.R (by decide) (HFO.out.R (by decide) Ra.out)))
      have rb16 := Aside0.mk (X3.out.R (by decide) (X2.out.R (by decide) (HFO.out.R (by decide) Rb.out)))
      have rc16 := Aside0.mk (X3.out.R (by decide) (X2.out.R (by decide) (HFO.out.R (by decide) Rc.out)))
      have ma16 := Aside0.mk (X3.out.R (by decide) (X2.out.R (by decide) (HFO.out.R (by decide) (Kd.R_lower (E13.out.R (E12.out.R Ma.out)) F10.out.size))))
      have mb16 := Aside0.mk (X3.out.R (by decide) (X2.out.R (by decide) (HFO.out.R (by decide) (Kd.R_lower (E13.out.R Mb.out) F11.out.size))))
      have mc16 := Aside0.mk (X3.out.R (by decide) (X2.out.R (by decide) (HFO.out.R (by decide) (Kd.R_lower Mc.out F12.out.size))))
      have ZA : Aside0 (w13.heap.size ≤ wB.heap.size) := ⟨Nat.le_trans HFO.out.1.size HBB.out.size⟩
      have rd16 := Aside0.mk (Kd.R_lower (X3.out.R (by decide) Rd.out) (Nat.le_trans F13.out.size ZA.out))
      have KD1 := Aside0.mk (sameT_self ds (by have := HDL.out; omega))
      go_upto_region 28 with (go_at_call 15; go_loud (refine (keep_any gh w.heap.size Ad An cd cn ds vo13 vw13 0 ((([] ++ [(.slice Aa ts.length ca)]) ++ [(.slice Ab us.length cb)]) ++ [(.slice Ac ts.length cc)]) ((([] ++ [ma]) ++ [mb]) ++ [mc]) _ HBK16.out rd16.out Rn.out KD1.out (by have := HDL.out; omega) (by simp) X4.out.size).mono ?_); rintro e w17 ⟨rfl, vo17, vw17, md, hbk, hR, hbl, hkx⟩; have HBK17 := Aside0.mk hbk; have Md := Aside0.mk hR; have E17 : Aside0 (Fr w.heap.size w16 w17) := ⟨⟨hbl, hkx⟩⟩; clear hbk hR hbl hkx)
      have Td : Aside0 (Span w16.heap.size w17.heap.size md) := ⟨Span.of Md.out⟩
      have H_O_L_ : Aside0 (Lists k40 w17 w.heap.size 40 (((([] ++ [(.slice Aa ts.length ca)]) ++ [(.slice Ab us.length cb)]) ++ [(.slice Ac ts.length cc)]) ++ [.slice Ad ds.length cd]) (((([] ++ [ts]) ++ [us]) ++ [ts]) ++ [ds])) := ⟨((((Lists.nil).snoc (E17.out.R ra16.out)).snoc (E17.out.R rb16.out)).snoc (E17.out.R rc16.out)).snoc (E17.out.R rd16.out)⟩
      have H_W_L_ : Aside0 (Lists k40 w17 w.heap.size 40 (((([] ++ [ma]) ++ [mb]) ++ [mc]) ++ [md]) (((([] ++ [ts]) ++ [us]) ++ [ts]) ++ [ds])) := ⟨((((Lists.nil).snoc (E17.out.R ma16.out)).snoc (E17.out.R mb16.out)).snoc (E17.out.R mc16.out)).snoc (Kd.R_lower Md.out X4.out.size)⟩
      have HPT : Aside0 (Parted ((((([] ++ [(.slice Aa ts.length ca)]) ++ [(.slice Ab us.length cb)]) ++ [(.slice Ac ts.length cc)]) ++ [.slice Ad ds.length cd]) ++ (((([] ++ [ma]) ++ [mb]) ++ [mc]) ++ [md]))) := ⟨parted8 Sa.out Sb.out Sc.out Sd.out Ta.out Tb.out Tc.out Td.out ⟨Nat.le_refl _, Nat.le_refl _, Nat.le_trans E9.out.size E10.out.size, Nat.le_refl _, Nat.le_refl _, ZA.out, Z16.out⟩ ⟨E6.out.size, E7.out.size, E8.out.size, ZB.out, E11.out.size, E12.out.size, E13.out.size, E17.out.size⟩⟩
      have F17 : Aside0 (Below w.heap.size w w17) := ⟨X4.out.trans E17.out.1⟩
      have GA7 := Aside0.mk (E17.out.blk G5.out (by decide) (by decide))
      have GB7 := Aside0.mk (E17.out.blk G6.out (by decide) (by decide))
      go_upto_region 29 with (go_at_call 16; go_loud (refine (spoil_any gh w.heap.size vo17 vw17 (((([] ++ [(.slice Aa ts.length ca)]) ++ [(.slice Ab us.length cb)]) ++ [(.slice Ac ts.length cc)]) ++ [.slice Ad ds.length cd]) (((([] ++ [ma]) ++ [mb]) ++ [mc]) ++ [md]) (((([] ++ [ts]) ++ [us]) ++ [ts]) ++ [ds]) w17 HBK17.out H_O_L_.out H_W_L_.out HPT.out (fun xs h => sameT_self xs (by omega)) (by simp) ?sX F17.out.size).mono ?_); (case sX => intro xs hx; have h1 := HTL.out; have h2 := HUL.out; have h3 := HDL.out; simp only [List.nil_append, List.cons_append, List.mem_cons, List.not_mem_nil, or_false] at hx; rcases hx with rfl | rfl | rfl | rfl <;> omega); rintro e w18 ⟨rfl, hkp⟩; have HKP := Aside0.mk hkp; clear hkp)
      have HLA := Aside0.mk (H_O_L_.out.append H_W_L_.out)
      have GA8 : Aside0 (w18.heap[ga]? = some (.cells #[.int .i64 p3, .int .i64 k3] 34 (0, 0))) := ⟨(HKP.out.block ga (blk_lt GA7.out) (okS_not HBK17.out HLA.out GA7.out (by decide) (by decide) (by decide))).trans GA7.out⟩
      have GB8 : Aside0 (w18.heap[gb]? = some (.cells #[.int .i64 p3, .int .i64 k3] 34 (0, 0))) := ⟨(HKP.out.block gb (blk_lt GB7.out) (okS_not HBK17.out HLA.out GB7.out (by decide) (by decide) (by decide))).trans GB7.out⟩
      have F18 : Aside0 (Below w.heap.size w w18) := ⟨F17.out.trans (HKP.out.to_below (okS_base HBK17.out HLA.out) F17.out.size)⟩
      have ya0 : w18.cell? ⟨ga, 0, none⟩ = some (.int .i64 p3) := (blk_cell GA8.out 0).trans rfl
      have ya1 : w18.cell? ⟨ga, 1, none⟩ = some (.int .i64 k3) := (blk_cell GA8.out 1).trans rfl
      have yb0 : w18.cell? ⟨gb, 0, none⟩ = some (.int .i64 p3) := (blk_cell GB8.out 0).trans rfl
      have yb1 : w18.cell? ⟨gb, 1, none⟩ = some (.int .i64 k3) := (blk_cell GB8.out 1).trans rfl
      go_wp2_with (fail)
      go_returns
      exact ⟨rfl, F18.out⟩
end Go.Proofs.Ytmingnhhmaclaaa.Bk
