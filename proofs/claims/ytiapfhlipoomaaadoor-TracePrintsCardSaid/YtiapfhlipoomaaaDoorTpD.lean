/- Lemmas for the claim (what no proof of it names is left out). -/
import Derived.Test.YtiapfhlipoomaaaDoorTpC
import Derived.Deep.RegionHeld3
import Derived.Laws.CopyOwn
import Derived.Test.YtiapfhlipoomaaaDoorTpA
section
namespace Go.Proofs.YtiapfhlipoomaaaDoor.Given
open Go.RowKit Go.Proofs.YtiapfhlipoomaaaDoorW.PrintWords Go.Proofs.YtiapfhlipoomaaaDoorW.PrintLast Go.Proofs.YtiapfhlipoomaaaDoorW.PrintMore Go.Proofs.YtiapfhlipoomaaaDoor.Print
set_option linter.unusedVariables false
set_option linter.unusedSimpArgs false
def wordC (x : S24) (c : Int) : List ByteArray :=
  if c = 76 then x.f7.map itoaB else if c = 84 then [(wsK 6).getD x.f6.toNat ⟨#[]⟩]
  else if c = 83 then [(wsK 11).getD x.f6.toNat ⟨#[]⟩] else [itoaB (getK x (letO c))]
def wordCs (x : S24) (l : List UInt8) : List ByteArray := l.flatMap fun b => wordC x b.toNat
theorem wordC_len (x : S24) (c : Int) : (wordC x c).length ≤ x.f7.length + 1 := by
  unfold wordC
  repeat' split
  all_goals simp
theorem wordCs_snoc (x : S24) (l : List UInt8) (b : UInt8) : wordCs x (l ++ [b]) = wordCs x l ++ wordC x b.toNat := by simp [wordCs]
theorem wordCs_len (x : S24) : ∀ (l : List UInt8), (wordCs x l).length ≤ l.length * (x.f7.length + 1)
  | [] => by simp [wordCs]
  | b :: l => by
    have h1 := wordCs_len x l
    have h2 := wordC_len x b.toNat
    have e : wordCs x (b :: l) = wordC x b.toNat ++ wordCs x l := by simp [wordCs]
    rw [e, List.length_append, List.length_cons, Nat.succ_mul]
    omega
theorem words_letters (k : Nat) (h1 : 1 ≤ k) (h2 : k ≤ 11) (x : S24) (h : okK k x = true) : wordB k :: wordCs x (shapeB k).data.toList = wordsK k x := by
  obtain ⟨x0, x1, x2, x3, x4, x5, x6, x7⟩ := x
  rcases eleven h1 h2 with rfl | rfl | rfl | rfl | rfl | rfl | rfl | rfl | rfl | rfl | rfl
  all_goals simp [okK] at h
  all_goals simp [shapeB, wordCs, wordC, letO, wordsK, wordsF, wordsM, foK, clsK, getK, h]
theorem ok_letters (k : Nat) (h1 : 1 ≤ k) (h2 : k ≤ 11) (x : S24) (h : okK k x = true) : okL x (shapeB k).data.toList = true := by
  have e := ref_check k h1 h2 x
  unfold checkK at e
  rw [if_pos h] at e
  unfold refK at e
  simp only at e
  by_cases hl : okL x (shapeB k).data.toList = false
  · rw [if_pos hl] at e
    cases e
  · simpa using hl
theorem okL_at {x : S24} {l : List UInt8} (h : okL x l = true) {j : Nat} {b : UInt8} (hb : l[j]? = some b) : okC x b.toNat = true := List.all_eq_true.1 h b (List.mem_of_getElem? hb)
theorem traps_at (n : Nat) (h1 : 1 ≤ n) (h2 : n ≤ 5) : ([(⟨#[100, 105, 118, 105, 100, 101]⟩ : ByteArray), (⟨#[105, 110, 100, 101, 120]⟩ : ByteArray), (⟨#[102, 105, 108, 108]⟩ : ByteArray), (⟨#[110, 105, 108]⟩ : ByteArray), (⟨#[119, 114, 111, 110, 103]⟩ : ByteArray)] : List ByteArray)[n - 1]? = some ((wsK 6).getD n ⟨#[]⟩) := by
  have key : ∀ n : Fin 6, 1 ≤ n.val → ([(⟨#[100, 105, 118, 105, 100, 101]⟩ : ByteArray), (⟨#[105, 110, 100, 101, 120]⟩ : ByteArray), (⟨#[102, 105, 108, 108]⟩ : ByteArray), (⟨#[110, 105, 108]⟩ : ByteArray), (⟨#[119, 114, 111, 110, 103]⟩ : ByteArray)] : List ByteArray)[n.val - 1]? = some ((wsK 6).getD n.val ⟨#[]⟩) := by
    intro n h
    match n, h with
    | ⟨1, _⟩, _ => rfl
    | ⟨2, _⟩, _ => rfl
    | ⟨3, _⟩, _ => rfl
    | ⟨4, _⟩, _ => rfl
    | ⟨5, _⟩, _ => rfl
  exact key ⟨n, by omega⟩ h1
theorem counters_at (n : Nat) (h1 : 1 ≤ n) (h2 : n ≤ 6) : ([(⟨#[112, 114, 111, 99, 115]⟩ : ByteArray), (⟨#[108, 105, 118, 101]⟩ : ByteArray), (⟨#[99, 104, 97, 110, 115]⟩ : ByteArray), (⟨#[116, 105, 99, 107, 115]⟩ : ByteArray), (⟨#[99, 101, 108, 108, 115]⟩ : ByteArray), (⟨#[100, 101, 112, 116, 104]⟩ : ByteArray)] : List ByteArray)[n - 1]? = some ((wsK 11).getD n ⟨#[]⟩) := by
  have key : ∀ n : Fin 7, 1 ≤ n.val → ([(⟨#[112, 114, 111, 99, 115]⟩ : ByteArray), (⟨#[108, 105, 118, 101]⟩ : ByteArray), (⟨#[99, 104, 97, 110, 115]⟩ : ByteArray), (⟨#[116, 105, 99, 107, 115]⟩ : ByteArray), (⟨#[99, 101, 108, 108, 115]⟩ : ByteArray), (⟨#[100, 101, 112, 116, 104]⟩ : ByteArray)] : List ByteArray)[n.val - 1]? = some ((wsK 11).getD n.val ⟨#[]⟩) := by
    intro n h
    match n, h with
    | ⟨1, _⟩, _ => rfl
    | ⟨2, _⟩, _ => rfl
    | ⟨3, _⟩, _ => rfl
    | ⟨4, _⟩, _ => rfl
    | ⟨5, _⟩, _ => rfl
    | ⟨6, _⟩, _ => rfl
  exact key ⟨n, by omega⟩ h1
theorem row_str {w : World} {base : Nat} {ok : Nat → Prop} {v : Value} {xs : List ByteArray} {s : ByteArray} {i : Nat} (h : Kd.R Kd.string 9 w base ok v xs) (hs : xs[i]? = some s) : ∃ ad c, v = .slice (some ad) xs.length c ∧ w.cell? (ad.add i) = some (.string s) := by
  obtain ⟨A, c, rfl, hc, hC⟩ := Kd.R_reads h
  have hi := (List.getElem?_eq_some_iff.1 hs).1
  obtain ⟨ad, rfl, hcell⟩ := Kd.at_string hC (i : Int) (by omega) (by omega)
  refine ⟨ad, c, rfl, ?_⟩
  rw [Int.toNat_natCast] at hcell
  rw [hcell]
  simp [rdOf, hs]
def wt14T : Bool × List (List Nat × List Nat) := (true, [([], []), ([], []), ([], []), ([2], [2]), ([3], [3]), ([1, 4], [1, 4]), ([5], [5]), ([6], [6]), ([0, 7, 1], [0, 7]), ([8, 8, 0, 1, 2, 3, 4, 5, 6, 7, 8], [0, 8])])
def wt14B : List Nat := [0, 0, 0, 4, 12, 30, 62, 126, 255, 511]
theorem wt14tab : rtab .any (opsOf Tryd.f35 14) = wt14T := by kernel_rfl
theorem wt14bits : waitsOk wt14T.2 wt14B = true := by kernel_rfl
theorem wt16tab : rtab .any (opsOf Tryd.f35 16) = wt14T := by kernel_rfl
theorem wt16bits : waitsOk wt14T.2 wt14B = true := wt14bits
set_option maxRecDepth 100000 in
set_option maxHeartbeats 4000000 in
theorem words_ref (x : S24) (k : Nat) (h1 : 1 ≤ k) (h2 : k ≤ 11) (hk : x.f0 = k) (hok : okK k x = true) (hrg : rngX x) (hlen : x.f7.length ≤ 1099511627776) (A : Option Addr) (cap : Nat) (w : World) (hr : Kd.C (Kd.int .i64) w A x.f7.length x.f7) :
    Calls Tryd.prog 35 #[evV x A cap] w fun e w' => ∃ v, e = .returned v ∧ Kd.R Kd.string 9 w' w.heap.size (fun _ => True) v (wordsK k x) ∧ Below w.heap.size w w' := by
  have hu24 := Tryd.underlying24
  have hu46 := Tryd.underlying46
  have HB := Aside0.mk (Below.refl w.heap.size w)
  have HK := Aside0.mk hk
  have HR := Aside0.mk hr
  have HG := Aside0.mk hrg
  have HWD := Aside0.mk (word_says k h1 h2)
  have HSH := Aside0.mk (shape_says k h1 h2)
  have HWL := Aside0.mk (words_letters k h1 h2 x hok)
  have HOL := Aside0.mk (ok_letters k h1 h2 x hok)
  have HLEN := Aside0.mk hlen
  have hsz := shape_size k
  obtain ⟨wd, hwd⟩ : ∃ wd, wd = wordB k := ⟨_, rfl⟩
  obtain ⟨s, hs⟩ : ∃ s, s = shapeB k := ⟨_, rfl⟩
  rw [← hwd] at HWD HWL
  rw [← hs] at HSH hsz HWL HOL
  clear hk hr hrg hok hlen hwd hs h1 h2
  generalize wordsK k x = res at HWL ⊢
  go_enter Tryd.func35, Tryd.ntmps35
  go_wp2_with (first
    | ((with_reducible refine gate_dst (N := 1) rfl ?_); refine box_event ?hg (N := 1) ?hd (cs := evC x (.slice A x.f7.length cap)) (t := 24) ?hr ?_; (case hd => rfl); (case hg => rfl); (case hr => first | (go_simp; done) | (go_simp; rfl)); intro g1 hg w1 hbox hb; have n0_ := Aside0.mk (below_step HB.out hb); clear HB; have HB := n0_; clear n0_; have x0 : w1.cell? ⟨g1, 0, none⟩ = some (.int .i64 k) := (blk_cell hbox 0).trans (congrArg (fun n => some (Value.int .i64 n)) HK.out); have BX := Aside0.mk hbox; clear hbox hb hg)
    | (go_at_call 26; refine (squintref18_word.calls (k : Int) _ _ HWD.out).mono ?_; rintro e w2 ⟨rfl, hb⟩; have n0_ := Aside0.mk (below_step HB.out hb); clear HB; have HB := n0_; clear n0_; have n0_ := Aside0.mk (blk_below BX.out hb); clear BX; have BX := n0_; clear n0_ hb x0)
    | ((with_reducible refine gate_dst (N := 10) rfl ?_); refine Kd.R_lit Kd.string (w0 := w2) w2.heap.size 9 ?hg (N := 10) ?hd (xs := [wd]) (inner := [.string wd]) (ok := fun _ => True) (okp := fun _ => True) ?hr ?hp (fun _ hk => hk) trivial ?hb ?hs (by simp) ?_; (case hd => rfl); (case hg => rfl); (case hr => first | (go_simp; done) | (go_simp; rfl)); (case hp => exact (Reps.one (show Kd.M Kd.string _ _ _ wd [.string wd] from rfl) (Reps.none _ _))); (case hb => exact Below.refl _ _); (case hs => exact Nat.le_refl _); intro v0 w3 ho hb hg_ hat_; clear hg_ hat_; have HO := Aside0.mk ho; have HB1 := Aside0.mk hb; clear ho hb; have x0 : w3.cell? ⟨g1, 0, none⟩ = some (.int .i64 k) := cell_keep BX.out HB1.out (congrArg (fun n => some (Value.int .i64 n)) HK.out))
    | (go_at_call 27; refine (squintref18_shape.calls (k : Int) _ _ HSH.out).mono ?_; rintro e w4 ⟨rfl, hb⟩; have n1_ := Aside0.mk (Kd.R_below HO.out hb); have n3_ := Aside0.mk (below_then HB1.out HB1.out.size hb); clear HO HB1 hb x0; have HO := n1_; have HB1 := n3_; clear n1_ n3_))
  go_loopw [3, 5] (fun v3 v5 wr => ∃ j : Nat, v5 = .int .i64 j ∧ j ≤ s.size ∧ Aside0 (Kd.R Kd.string 9 wr w2.heap.size (fun _ => True) v3 (wd :: wordCs x (s.data.toList.take j))) ∧ Aside0 (Below w2.heap.size w2 wr)) (fun _ v5 _ => s.size - (intOf v5).toNat)
  case atStart => exact ⟨0, rfl, by omega, HO, HB1⟩
  case round =>
    clear HO HB1
    obtain ⟨j, rfl, hj, HO, HB1⟩ := hrel
    obtain ⟨wo, rfl⟩ : ∃ wo : World, wo = wr := ⟨_, rfl⟩
    by_cases hlt : j < s.size
    · have HTK : Aside0 (s.data.toList.take (j + 1) = s.data.toList.take j ++ [s[j]]) := ⟨take_byte s j hlt⟩
      have hbj : s.data.toList[j]? = some s[j] := by rw [List.getElem?_eq_getElem (by rw [list_size]; exact hlt)]; rfl
      have hoc := okL_at HOL.out hbj
      have HCS : Aside0 (wordCs x (s.data.toList.take (j + 1)) = wordCs x (s.data.toList.take j) ++ wordC x s[j].toNat) := ⟨by rw [HTK.out, wordCs_snoc]⟩
      have hcl := wordCs_len x (s.data.toList.take j)
      have hcj : (s.data.toList.take j).length ≤ 5 := by rw [List.length_take]; omega
      have hcm : (wordCs x (s.data.toList.take j)).length ≤ 5 * (1099511627776 + 1) := Nat.le_trans hcl (Nat.mul_le_mul hcj (by have := HLEN.out; omega))
      obtain ⟨wj, hwj⟩ : ∃ wj, wj = wd :: wordCs x (s.data.toList.take j) := ⟨_, rfl⟩
      have HCJ : Aside0 (wd :: wordCs x (s.data.toList.take (j + 1)) = wj ++ wordC x s[j].toNat) := ⟨by rw [HCS.out, hwj]; rfl⟩
      have hwl : wj.length ≤ 5497558138890 := by rw [hwj, List.length_cons]; omega
      rw [← hwj] at HO
      clear hcl hcj hcm HCS HTK hwj hbj
      obtain ⟨A3, c3, rfl⟩ := Kd.R_slice HO.out
      by_cases e76 : s[j].toNat = 76
      · have e76 : ((s[j].toNat : Int) == 76) = true := by simp; omega
        have e84 : ((s[j].toNat : Int) == 84) = false := by simp; omega
        have e83 : ((s[j].toNat : Int) == 83) = false := by simp; omega
        have HWC : Aside0 (wordC x s[j].toNat = x.f7.map itoaB) := ⟨by unfold wordC; rw [if_pos (by omega)]⟩
        have hlm := HLEN.out
        clear hoc
        go_wp2_with (fail)
        go_loopw [3, 6] (fun v3 v6 wr => ∃ a : Nat, v6 = .int .i64 a ∧ a ≤ x.f7.length ∧ Aside0 (Kd.R Kd.string 9 wr w2.heap.size (fun _ => True) v3 (wj ++ (x.f7.take a).map itoaB)) ∧ Aside0 (Below w2.heap.size w2 wr)) (fun _ v6 _ => x.f7.length - (intOf v6).toNat)
        case atStart => exact ⟨0, rfl, by omega, ⟨by rw [List.take_zero, List.map_nil, List.append_nil]; exact HO.out⟩, HB1⟩
        case round =>
          clear HO HB1
          obtain ⟨a, rfl, ha, HO, HB1⟩ := hrel
          have BX2 := Aside0.mk (blk_below BX.out HB1.out)
          have x7 : wr.cell? ⟨g1, 7, none⟩ = some (.slice A x.f7.length cap) := (blk_cell BX2.out 7).trans rfl
          by_cases hla : a < x.f7.length
          · obtain ⟨ad, hA, hcell⟩ := Kd.at_int HR.out (a : Int) (by omega) (by omega)
            subst hA
            have hv := pw_cell_below (below_then HB.out HB.out.size HB1.out) hcell
            rw [Int.toNat_natCast] at hv
            obtain ⟨n, hn⟩ : ∃ n, n = rd x.f7 (a : Int) := ⟨_, rfl⟩
            rw [← hn] at hv
            have hget : x.f7[a]? = some n := by rw [hn]; simp [rd, hla]
            have HRG : Aside0 (Rng n) := ⟨HG.out.2 n (List.mem_of_getElem? hget)⟩
            obtain ⟨wa, hwa⟩ : ∃ wa, wa = wj ++ (x.f7.take a).map itoaB := ⟨_, rfl⟩
            have HWA : Aside0 (wj ++ (x.f7.take (a + 1)).map itoaB = wa ++ [itoaB n]) := ⟨by rw [List.take_add_one, hget, hwa]; simp⟩
            have HTL : Aside0 ((wa.length + 1) * 16 ≤ 140737488355328) := ⟨by rw [hwa, List.length_append, List.length_map, List.length_take]; omega⟩
            rw [← hwa] at HO
            clear hcell hn hget hwa
            obtain ⟨A4, c4, rfl⟩ := Kd.R_slice HO.out
            go_wp2_with (first
              | (go_at_call 47; refine (digits_any (n) HRG.out _).mono ?_; rintro e w5 ⟨rfl, hb⟩; have n1_ := Aside0.mk (Kd.R_below HO.out hb); have n3_ := Aside0.mk (below_then HB1.out HB1.out.size hb); clear HO HB1 hb; have HO := n1_; have HB1 := n3_; clear n1_ n3_)
              | ((with_reducible refine gate_builtin (b := .append) (xs := #[.tmp 42, .tmp 49]) rfl ?_); at_builtin; refine Kd.R_append Kd.string (w0 := w2) w2.heap.size rfl (.tmp 42) (.tmp 49) 46 9 (.string ⟨#[]⟩) 16 rfl Tryd.underlying46 info9 rfl (by decide) (by omega) (.slice A4 wa.length c4) (wa) (itoaB n) [.string (itoaB n)] (fun _ => True) (fun _ => False) rfl rfl ?aP (fun _ hk => hk.elim) ?aF ?aO ?aB ?aS ?aL ?_; (case aP => exact rfl); (case aB => exact HB1.out); (case aF => exact (fun _ _ => trivial)); (case aO => exact HO.out); (case aS => exact HB1.out.size); (case aL => exact HTL.out); intro v7 w7 ho hb hg_ hat_; clear hg_ hat_; have n1_ : Aside0 (Kd.R Kd.string 9 w7 w2.heap.size (fun _ => True) v7 (wa ++ [itoaB n])) := ⟨ho⟩; have n3_ := Aside0.mk hb; clear HO HB1 ho hb; have HO := n1_; have HB1 := n3_; clear n1_ n3_))
            go_roundw
            case rel => exact ⟨a + 1, by go_num, by omega, by rw [HWA.out]; exact HO, HB1⟩
            case measure => simp [intOf]; omega
          · obtain rfl : a = x.f7.length := by omega
            rw [List.take_length] at HO
            go_wp2_with (fail)
            go_roundw
            case rel => exact ⟨j + 1, by go_num, by omega, by rw [HCJ.out, HWC.out]; exact HO, HB1⟩
            case measure => simp [intOf]; omega
      by_cases e84 : s[j].toNat = 84
      · have hn6 : 1 ≤ x.f6 ∧ x.f6 ≤ 5 := by
          have h := hoc
          unfold okC at h
          rw [if_neg (by omega), if_neg (by omega), if_pos (by omega)] at h
          have e : letO (s[j].toNat : Int) = 6 := by rw [e84]; rfl
          rw [e] at h
          exact of_decide_eq_true h
        obtain ⟨n6, hn6e⟩ : ∃ n : Nat, x.f6 = n := ⟨x.f6.toNat, by omega⟩
        have q : wo.cell? ⟨g1, 6, none⟩ = some (.int .i64 (n6 : Int)) := cell_keep BX.out HB1.out (by rw [← hn6e]; rfl)
        obtain ⟨sw, hsw⟩ : ∃ sw, sw = (wsK 6).getD n6 ⟨#[]⟩ := ⟨_, rfl⟩
        have HWC : Aside0 (wordC x s[j].toNat = [sw]) := ⟨by unfold wordC; rw [if_neg (by omega), if_pos (by omega), hn6e, Int.toNat_natCast, hsw]⟩
        have HAT := Aside0.mk (traps_at n6 (by omega) (by omega))
        rw [← hsw] at HAT
        have HTL : Aside0 ((wj.length + 1) * 16 ≤ 140737488355328) := ⟨by omega⟩
        obtain ⟨m6, hm6⟩ : ∃ m : Nat, ((n6 : Int) - 1).toNat = m := ⟨_, rfl⟩
        rw [show n6 - 1 = m6 by omega] at HAT
        have HX6 : Aside0 ((evC x (.slice A x.f7.length cap))[6]? = some (.int .i64 (n6 : Int))) := ⟨by rw [← hn6e]; rfl⟩
        have u1 : IntKind.i64.wrap ((n6 : Int) - 1) = (n6 : Int) - 1 := IntWalk.i64_in _ (by omega)
        have u2 : 0 ≤ (n6 : Int) - 1 := by omega
        have u4 : (1 : Int) ≤ (n6 : Int) := by omega
        have u3 : (n6 : Int) - 1 < 5 := by omega
        have e76 : ((s[j].toNat : Int) == 76) = false := by simp; omega
        have e84 : ((s[j].toNat : Int) == 84) = true := by simp; omega
        have e83 : ((s[j].toNat : Int) == 83) = false := by simp; omega
        clear hn6 hn6e hsw hoc
        go_wp2_with (fail)
        have n1_ := Aside0.mk (Kd.R_drew HO.out)
        have n3_ := Aside0.mk (below_drew1 HB1.out)
        refine start_ (n := 10) (S := fun w' => w'.cell? ⟨g1, 6, none⟩ = some (.int .i64 (n6 : Int))) (ds := []) #[false, false, false, false, false, false, false, false, false, false] (by kernel_rfl) rfl rfl q (fun hHeld => ?_)
        refine with_tabW wt14tab wt14bits (fun HT_ HW_ => ?_)
        generalize wo.drew = wd at n1_ n3_ hHeld ⊢
        clear HO HB1 q
        have HO := n1_
        have HB1 := n3_
        clear n1_ n3_
        refine pure_ (i := 0) (N := some 53) (v := ?_) (a' := ?_) #[true, false, false, false, false, false, false, false, false, false] rfl rfl (any_of HT_.out (by kernel_rfl)) (fun _ _ _ h => h) (Or.inl ⟨by rfl, ?_⟩) ?_ ?_
        rotate_left
        · intro w'
          go_simp
          with_reducible rfl
        rotate_left
        · simp only [Act.put, List.setIfInBounds_toArray, List.set_cons_zero, List.set_cons_succ, i64_w, i32_w]
          rfl
        refine pure_ (i := 2) (N := some 55) (v := ?_) (a' := ?_) #[true, false, true, false, false, false, false, false, false, false] rfl rfl (any_of HT_.out (by kernel_rfl)) (fun _ _ _ h => h) (Or.inl ⟨by rfl, ?_⟩) ?_ ?_
        rotate_left
        · intro w'
          go_simp
          with_reducible rfl
        rotate_left
        · simp only [Act.put, List.setIfInBounds_toArray, List.set_cons_zero, List.set_cons_succ, i64_w, i32_w]
          rfl
        refine take_ (i := 3) (N := some 56) (v := ?_) (a' := ?_) #[true, false, true, true, false, false, false, false, false, false] rfl rfl (take_ofW HT_.out HW_.out (by kernel_rfl)) (fun _ _ _ h => h) (Or.inl ⟨by rfl, ?_⟩) hHeld ?_ ?_
        rotate_left
        · rintro w' s0
          go_simp
          with_reducible rfl
        rotate_left
        · simp only [Act.put, List.setIfInBounds_toArray, List.set_cons_zero, List.set_cons_succ, i64_w, i32_w]
          rfl
        refine pure_ (i := 4) (N := some 57) (v := ?_) (a' := ?_) #[true, false, true, true, true, false, false, false, false, false] rfl rfl (any_of HT_.out (by kernel_rfl)) (fun _ _ _ h => h) (Or.inl ⟨by rfl, ?_⟩) ?_ ?_
        rotate_left
        · intro w'
          go_simp
          with_reducible rfl
        rotate_left
        · simp only [Act.put, List.setIfInBounds_toArray, List.set_cons_zero, List.set_cons_succ, i64_w, i32_w]
          rfl
        refine one_ (i := 1) (N := some 54) #[true, true, true, true, true, false, false, false, false, false] rfl rfl (one_of HT_.out (by kernel_rfl)) (by decide) (fun K hK => ?_)
        refine goes_ Tryd.func29 (by kernel_rfl) rfl #[] (by rfl) rfl rfl (by (try simp only [List.map_toArray, List.map_cons, List.map_nil]); first | done | rfl) ?_
        refine (squintref18_traps.calls _ _ rfl).mono ?_
        rintro e w5 ⟨v5, rfl, hR, hb⟩
        obtain ⟨at_, ct, rfl, hcell⟩ := row_str hR HAT.out
        have n1_ := Aside0.mk (Kd.R_below HO.out hb)
        have n3_ := Aside0.mk (below_then HB1.out HB1.out.size hb)
        clear HO HB1 hb hR
        have HO := n1_
        have HB1 := n3_
        clear n1_ n3_
        refine ⟨_, rfl, ?_⟩
        refine hK.out _ _ (cell_keep BX.out HB1.out HX6.out) (fun hHeld => ?_)
        clear hK K
        refine norm_ (a' := ?_) ?_ ?_
        rotate_left
        · show Act.put _ (some 54) _ = _
          simp only [Act.put, List.setIfInBounds_toArray, List.set_cons_zero, List.set_cons_succ, i64_w, i32_w]
          rfl
        refine pure_ (i := 5) (N := some 58) (v := ?_) (a' := ?_) #[true, true, true, true, true, true, false, false, false, false] rfl rfl (any_of HT_.out (by kernel_rfl)) (fun _ _ _ h => h) (Or.inl ⟨by rfl, ?_⟩) ?_ ?_
        rotate_left
        · intro w'
          go_simp
          with_reducible rfl
        rotate_left
        · simp only [Act.put, List.setIfInBounds_toArray, List.set_cons_zero, List.set_cons_succ, i64_w, i32_w]
          rfl
        refine one_ (i := 6) (N := some 59) #[true, true, true, true, true, true, true, false, false, false] rfl rfl (one_of HT_.out (by kernel_rfl)) (by decide) (fun K hK => ?_)
        refine event_step (v := .string sw) (w1 := w5) (by rfl) (by first | (go_simp; done) | (go_simp; rfl)) ?_
        refine hK.out _ _ (cell_keep BX.out HB1.out HX6.out) (fun hHeld => ?_)
        clear hK K
        refine norm_ (a' := ?_) ?_ ?_
        rotate_left
        · show Act.put _ (some 59) _ = _
          simp only [Act.put, List.setIfInBounds_toArray, List.set_cons_zero, List.set_cons_succ, i64_w, i32_w]
          rfl
        refine one_ (i := 7) (N := some 60) #[true, true, true, true, true, true, true, true, false, false] rfl rfl (one_of HT_.out (by kernel_rfl)) (by decide) (fun K hK => ?_)
        refine event_step (v := .slice (some ⟨w5.heap.size, 0, none⟩) 1 1) (w1 := w5.alloc (.cells #[.string sw] 9)) (by rfl) (by first | (go_simp; done) | (go_simp; rfl)) ?_
        refine hK.out _ _ (cell_keep BX.out (below_alloc HB1.out _) HX6.out) (fun hHeld => ?_)
        clear hK K
        refine norm_ (a' := ?_) ?_ ?_
        rotate_left
        · show Act.put _ (some 60) _ = _
          simp only [Act.put, List.setIfInBounds_toArray, List.set_cons_zero, List.set_cons_succ, i64_w, i32_w]
          rfl
        refine one_ (i := 8) (N := some 61) #[true, true, true, true, true, true, true, true, true, false] rfl rfl (one_of HT_.out (by kernel_rfl)) (by decide) (fun K hK => ?_)
        refine Kd.R_append_step Kd.string (w0 := w2) w2.heap.size (by rfl) (.tmp 53) (.tmp 60) 46 9 (.string ⟨#[]⟩) 16 (by rfl) Tryd.underlying46 info9 (by rfl) (by decide) (by omega) (.slice A3 wj.length c3) wj sw [.string sw] (fun _ => True) (fun _ => False) (by rfl) (by rfl) rfl (fun _ hk => hk.elim) (fun _ _ => trivial) HO.out HB1.out HB1.out.size HTL.out ?_
        intro v7 w7 ho hb _ _
        clear HO HB1
        have HO := Aside0.mk ho
        have HB1 := Aside0.mk hb
        clear ho hb
        refine hK.out _ _ (cell_keep BX.out HB1.out HX6.out) (fun hHeld => ?_)
        clear hK K
        refine norm_ (a' := ?_) ?_ ?_
        rotate_left
        · show Act.put _ (some 61) _ = _
          simp only [Act.put, List.setIfInBounds_toArray, List.set_cons_zero, List.set_cons_succ, i64_w, i32_w]
          rfl
        refine pure_ (i := 9) (N := some 3) (v := ?_) (a' := ?_) #[true, true, true, true, true, true, true, true, true, true] rfl rfl (any_of HT_.out (by kernel_rfl)) (fun _ _ _ h => h) (Or.inl ⟨by rfl, ?_⟩) ?_ ?_
        rotate_left
        · intro w'
          go_simp
          with_reducible rfl
        rotate_left
        · simp only [Act.put, List.setIfInBounds_toArray, List.set_cons_zero, List.set_cons_succ, i64_w, i32_w]
          rfl
        refine done_ (done_of HT_.out (by kernel_rfl)) ?_
        go_wp2_with (fail)
        go_roundw
        case rel => exact ⟨j + 1, by go_num, by omega, by rw [HCJ.out, HWC.out]; exact HO, HB1⟩
        case measure => simp [intOf]; omega
      by_cases e83 : s[j].toNat = 83
      · have hn6 : 1 ≤ x.f6 ∧ x.f6 ≤ 6 := by
          have h := hoc
          unfold okC at h
          rw [if_neg (by omega), if_neg (by omega), if_neg (by omega), if_pos (by omega)] at h
          have e : letO (s[j].toNat : Int) = 6 := by rw [e83]; rfl
          rw [e] at h
          exact of_decide_eq_true h
        obtain ⟨n6, hn6e⟩ : ∃ n : Nat, x.f6 = n := ⟨x.f6.toNat, by omega⟩
        have q : wo.cell? ⟨g1, 6, none⟩ = some (.int .i64 (n6 : Int)) := cell_keep BX.out HB1.out (by rw [← hn6e]; rfl)
        obtain ⟨sw, hsw⟩ : ∃ sw, sw = (wsK 11).getD n6 ⟨#[]⟩ := ⟨_, rfl⟩
        have HWC : Aside0 (wordC x s[j].toNat = [sw]) := ⟨by unfold wordC; rw [if_neg (by omega), if_neg (by omega), if_pos (by omega), hn6e, Int.toNat_natCast, hsw]⟩
        have HAT := Aside0.mk (counters_at n6 (by omega) (by omega))
        rw [← hsw] at HAT
        have HTL : Aside0 ((wj.length + 1) * 16 ≤ 140737488355328) := ⟨by omega⟩
        obtain ⟨m6, hm6⟩ : ∃ m : Nat, ((n6 : Int) - 1).toNat = m := ⟨_, rfl⟩
        rw [show n6 - 1 = m6 by omega] at HAT
        have HX6 : Aside0 ((evC x (.slice A x.f7.length cap))[6]? = some (.int .i64 (n6 : Int))) := ⟨by rw [← hn6e]; rfl⟩
        have u1 : IntKind.i64.wrap ((n6 : Int) - 1) = (n6 : Int) - 1 := IntWalk.i64_in _ (by omega)
        have u2 : 0 ≤ (n6 : Int) - 1 := by omega
        have u4 : (1 : Int) ≤ (n6 : Int) := by omega
        have u3 : (n6 : Int) - 1 < 6 := by omega
        have e76 : ((s[j].toNat : Int) == 76) = false := by simp; omega
        have e84 : ((s[j].toNat : Int) == 84) = false := by simp; omega
        have e83 : ((s[j].toNat : Int) == 83) = true := by simp; omega
        clear hn6 hn6e hsw hoc
        go_wp2_with (fail)
        have n1_ := Aside0.mk (Kd.R_drew HO.out)
        have n3_ := Aside0.mk (below_drew1 HB1.out)
        refine start_ (n := 10) (S := fun w' => w'.cell? ⟨g1, 6, none⟩ = some (.int .i64 (n6 : Int))) (ds := []) #[false, false, false, false, false, false, false, false, false, false] (by kernel_rfl) rfl rfl q (fun hHeld => ?_)
        refine with_tabW wt16tab wt16bits (fun HT_ HW_ => ?_)
        generalize wo.drew = wd at n1_ n3_ hHeld ⊢
        clear HO HB1 q
        have HO := n1_
        have HB1 := n3_
        clear n1_ n3_
        refine pure_ (i := 0) (N := some 64) (v := ?_) (a' := ?_) #[true, false, false, false, false, false, false, false, false, false] rfl rfl (any_of HT_.out (by kernel_rfl)) (fun _ _ _ h => h) (Or.inl ⟨by rfl, ?_⟩) ?_ ?_
        rotate_left
        · intro w'
          go_simp
          with_reducible rfl
        rotate_left
        · simp only [Act.put, List.setIfInBounds_toArray, List.set_cons_zero, List.set_cons_succ, i64_w, i32_w]
          rfl
        refine pure_ (i := 2) (N := some 66) (v := ?_) (a' := ?_) #[true, false, true, false, false, false, false, false, false, false] rfl rfl (any_of HT_.out (by kernel_rfl)) (fun _ _ _ h => h) (Or.inl ⟨by rfl, ?_⟩) ?_ ?_
        rotate_left
        · intro w'
          go_simp
          with_reducible rfl
        rotate_left
        · simp only [Act.put, List.setIfInBounds_toArray, List.set_cons_zero, List.set_cons_succ, i64_w, i32_w]
          rfl
        refine take_ (i := 3) (N := some 67) (v := ?_) (a' := ?_) #[true, false, true, true, false, false, false, false, false, false] rfl rfl (take_ofW HT_.out HW_.out (by kernel_rfl)) (fun _ _ _ h => h) (Or.inl ⟨by rfl, ?_⟩) hHeld ?_ ?_
        rotate_left
        · rintro w' s0
          go_simp
          with_reducible rfl
        rotate_left
        · simp only [Act.put, List.setIfInBounds_toArray, List.set_cons_zero, List.set_cons_succ, i64_w, i32_w]
          rfl
        refine pure_ (i := 4) (N := some 68) (v := ?_) (a' := ?_) #[true, false, true, true, true, false, false, false, false, false] rfl rfl (any_of HT_.out (by kernel_rfl)) (fun _ _ _ h => h) (Or.inl ⟨by rfl, ?_⟩) ?_ ?_
        rotate_left
        · intro w'
          go_simp
          with_reducible rfl
        rotate_left
        · simp only [Act.put, List.setIfInBounds_toArray, List.set_cons_zero, List.set_cons_succ, i64_w, i32_w]
          rfl
        refine one_ (i := 1) (N := some 65) #[true, true, true, true, true, false, false, false, false, false] rfl rfl (one_of HT_.out (by kernel_rfl)) (by decide) (fun K hK => ?_)
        refine goes_ Tryd.func30 (by kernel_rfl) rfl #[] (by rfl) rfl rfl (by (try simp only [List.map_toArray, List.map_cons, List.map_nil]); first | done | rfl) ?_
        refine (squintref18_counters.calls _ _ rfl).mono ?_
        rintro e w5 ⟨v5, rfl, hR, hb⟩
        obtain ⟨at_, ct, rfl, hcell⟩ := row_str hR HAT.out
        have n1_ := Aside0.mk (Kd.R_below HO.out hb)
        have n3_ := Aside0.mk (below_then HB1.out HB1.out.size hb)
        clear HO HB1 hb hR
        have HO := n1_
        have HB1 := n3_
        clear n1_ n3_
        refine ⟨_, rfl, ?_⟩
        refine hK.out _ _ (cell_keep BX.out HB1.out HX6.out) (fun hHeld => ?_)
        clear hK K
        refine norm_ (a' := ?_) ?_ ?_
        rotate_left
        · show Act.put _ (some 65) _ = _
          simp only [Act.put, List.setIfInBounds_toArray, List.set_cons_zero, List.set_cons_succ, i64_w, i32_w]
          rfl
        refine pure_ (i := 5) (N := some 69) (v := ?_) (a' := ?_) #[true, true, true, true, true, true, false, false, false, false] rfl rfl (any_of HT_.out (by kernel_rfl)) (fun _ _ _ h => h) (Or.inl ⟨by rfl, ?_⟩) ?_ ?_
        rotate_left
        · intro w'
          go_simp
          with_reducible rfl
        rotate_left
        · simp only [Act.put, List.setIfInBounds_toArray, List.set_cons_zero, List.set_cons_succ, i64_w, i32_w]
          rfl
        refine one_ (i := 6) (N := some 70) #[true, true, true, true, true, true, true, false, false, false] rfl rfl (one_of HT_.out (by kernel_rfl)) (by decide) (fun K hK => ?_)
        refine event_step (v := .string sw) (w1 := w5) (by rfl) (by first | (go_simp; done) | (go_simp; rfl)) ?_
        refine hK.out _ _ (cell_keep BX.out HB1.out HX6.out) (fun hHeld => ?_)
        clear hK K
        refine norm_ (a' := ?_) ?_ ?_
        rotate_left
        · show Act.put _ (some 70) _ = _
          simp only [Act.put, List.setIfInBounds_toArray, List.set_cons_zero, List.set_cons_succ, i64_w, i32_w]
          rfl
        refine one_ (i := 7) (N := some 71) #[true, true, true, true, true, true, true, true, false, false] rfl rfl (one_of HT_.out (by kernel_rfl)) (by decide) (fun K hK => ?_)
        refine event_step (v := .slice (some ⟨w5.heap.size, 0, none⟩) 1 1) (w1 := w5.alloc (.cells #[.string sw] 9)) (by rfl) (by first | (go_simp; done) | (go_simp; rfl)) ?_
        refine hK.out _ _ (cell_keep BX.out (below_alloc HB1.out _) HX6.out) (fun hHeld => ?_)
        clear hK K
        refine norm_ (a' := ?_) ?_ ?_
        rotate_left
        · show Act.put _ (some 71) _ = _
          simp only [Act.put, List.setIfInBounds_toArray, List.set_cons_zero, List.set_cons_succ, i64_w, i32_w]
          rfl
        refine one_ (i := 8) (N := some 72) #[true, true, true, true, true, true, true, true, true, false] rfl rfl (one_of HT_.out (by kernel_rfl)) (by decide) (fun K hK => ?_)
        refine Kd.R_append_step Kd.string (w0 := w2) w2.heap.size (by rfl) (.tmp 64) (.tmp 71) 46 9 (.string ⟨#[]⟩) 16 (by rfl) Tryd.underlying46 info9 (by rfl) (by decide) (by omega) (.slice A3 wj.length c3) wj sw [.string sw] (fun _ => True) (fun _ => False) (by rfl) (by rfl) rfl (fun _ hk => hk.elim) (fun _ _ => trivial) HO.out HB1.out HB1.out.size HTL.out ?_
        intro v7 w7 ho hb _ _
        clear HO HB1
        have HO := Aside0.mk ho
        have HB1 := Aside0.mk hb
        clear ho hb
        refine hK.out _ _ (cell_keep BX.out HB1.out HX6.out) (fun hHeld => ?_)
        clear hK K
        refine norm_ (a' := ?_) ?_ ?_
        rotate_left
        · show Act.put _ (some 72) _ = _
          simp only [Act.put, List.setIfInBounds_toArray, List.set_cons_zero, List.set_cons_succ, i64_w, i32_w]
          rfl
        refine pure_ (i := 9) (N := some 3) (v := ?_) (a' := ?_) #[true, true, true, true, true, true, true, true, true, true] rfl rfl (any_of HT_.out (by kernel_rfl)) (fun _ _ _ h => h) (Or.inl ⟨by rfl, ?_⟩) ?_ ?_
        rotate_left
        · intro w'
          go_simp
          with_reducible rfl
        rotate_left
        · simp only [Act.put, List.setIfInBounds_toArray, List.set_cons_zero, List.set_cons_succ, i64_w, i32_w]
          rfl
        refine done_ (done_of HT_.out (by kernel_rfl)) ?_
        go_wp2_with (fail)
        go_roundw
        case rel => exact ⟨j + 1, by go_num, by omega, by rw [HCJ.out, HWC.out]; exact HO, HB1⟩
        case measure => simp [intOf]; omega
      · obtain ⟨o, ho⟩ : ∃ o, letO (s[j].toNat : Int) = o := ⟨_, rfl⟩
        have hob : 1 ≤ o ∧ o ≤ 6 := by rw [← ho]; exact letO_le _
        have HOO := Aside0.mk ho
        obtain ⟨n, hn⟩ : ∃ n, n = getK x o := ⟨_, rfl⟩
        have q : wo.cell? ⟨g1, o, none⟩ = some (.int .i64 n) := cell_keep BX.out HB1.out (by rw [hn]; exact ev_get x _ o hob.1 hob.2)
        have HRG : Aside0 (Rng n) := ⟨by rw [hn]; exact HG.out.1 o hob.2⟩
        have HWC : Aside0 (wordC x s[j].toNat = [itoaB n]) := ⟨by unfold wordC; rw [if_neg (by omega), if_neg (by omega), if_neg (by omega), ho, hn]⟩
        have HTL : Aside0 ((wj.length + 1) * 16 ≤ 140737488355328) := ⟨by omega⟩
        have BX2 := Aside0.mk (blk_below BX.out HB1.out)
        have e76 : ((s[j].toNat : Int) == 76) = false := by simp; omega
        have e84 : ((s[j].toNat : Int) == 84) = false := by simp; omega
        have e83 : ((s[j].toNat : Int) == 83) = false := by simp; omega
        clear ho hn hob hoc
        go_wp2_with (first
          | (go_at_call 28; refine (field_at g1 _ o _ x (.slice A x.f7.length cap) BX2.out HOO.out).mono ?_; rintro e w6 ⟨rfl, hw⟩; rw [hw]; clear hw w6)
          | (go_at_call 47; refine (digits_any (n) HRG.out _).mono ?_; rintro e w5 ⟨rfl, hb⟩; have n1_ := Aside0.mk (Kd.R_below HO.out hb); have n3_ := Aside0.mk (below_then HB1.out HB1.out.size hb); clear HO HB1 hb; have HO := n1_; have HB1 := n3_; clear n1_ n3_)
          | ((with_reducible refine gate_builtin (b := .append) (xs := #[.tmp 23, .tmp 31]) rfl ?_); at_builtin; refine Kd.R_append Kd.string (w0 := w2) w2.heap.size rfl (.tmp 23) (.tmp 31) 46 9 (.string ⟨#[]⟩) 16 rfl Tryd.underlying46 info9 rfl (by decide) (by omega) (.slice A3 wj.length c3) (wj) (itoaB n) [.string (itoaB n)] (fun _ => True) (fun _ => False) rfl rfl ?aP (fun _ hk => hk.elim) ?aF ?aO ?aB ?aS ?aL ?_; (case aP => exact rfl); (case aB => exact HB1.out); (case aF => exact (fun _ _ => trivial)); (case aO => exact HO.out); (case aS => exact HB1.out.size); (case aL => exact HTL.out); intro v7 w7 ho hb hg_ hat_; clear hg_ hat_; have n1_ : Aside0 (Kd.R Kd.string 9 w7 w2.heap.size (fun _ => True) v7 (wj ++ [itoaB n])) := ⟨ho⟩; have n3_ := Aside0.mk hb; clear HO HB1 ho hb; have HO := n1_; have HB1 := n3_; clear n1_ n3_))
        go_roundw
        case rel => exact ⟨j + 1, by go_num, by omega, by rw [HCJ.out, HWC.out]; exact HO, HB1⟩
        case measure => simp [intOf]; omega
    · obtain rfl : j = s.size := by omega
      rw [List.take_of_length_le (by rw [list_size]; exact Nat.le_refl _)] at HO
      go_wp2_with (fail)
      go_returns
      exact ⟨_, rfl, by rw [← HWL.out]; exact Kd.R_lower HO.out HB.out.size, HB.out.trans (HB1.out.mono HB.out.size)⟩
end Go.Proofs.YtiapfhlipoomaaaDoor.Given
end
section
namespace Go.Proofs.YtiapfhlipoomaaaDoor.Given
open Go.RowKit Go.Proofs.YtiapfhlipoomaaaDoorW.PrintWords Go.Proofs.YtiapfhlipoomaaaDoorW.PrintLast Go.Proofs.YtiapfhlipoomaaaDoorW.PrintMore Go.Proofs.YtiapfhlipoomaaaDoor.Print
set_option linter.unusedVariables false
set_option linter.unusedSimpArgs false
def rngQ (x : S24) : Bool := (List.range 7).all (fun o => decide (Rng (getK x o))) && x.f7.all (fun n => decide (Rng n))
theorem rngQ_iff (x : S24) : rngQ x = true ↔ rngX x := by
  unfold rngQ rngX
  rw [Bool.and_eq_true, List.all_eq_true, List.all_eq_true]
  constructor
  · rintro ⟨h1, h2⟩
    exact ⟨fun o ho => of_decide_eq_true (h1 o (by rw [List.mem_range]; omega)), fun n hn => of_decide_eq_true (h2 n hn)⟩
  · rintro ⟨h1, h2⟩
    exact ⟨fun o ho => decide_eq_true (h1 o (by rw [List.mem_range] at ho; omega)), fun n hn => decide_eq_true (h2 n hn)⟩
def squintref18_Check.f (a0 a1 a2 a3 a4 a5 a6 : Int) (l : List Int) : Option Int := some (checkOf ⟨a0, a1, a2, a3, a4, a5, a6, l⟩)
theorem squintref18_Check.calls (a0 a1 a2 a3 a4 a5 a6 : Int) (A : Option Addr) (c : Nat) (l : List Int) (r : Int) (w : World) (hr : Kd.C (Kd.int .i64) w A l.length l) (hc : l.length ≤ c) (h : squintref18_Check.f a0 a1 a2 a3 a4 a5 a6 l = some r) :
    Calls Tryd.prog 11 #[.agg #[.int .i64 a0, .int .i64 a1, .int .i64 a2, .int .i64 a3, .int .i64 a4, .int .i64 a5, .int .i64 a6, .slice A l.length c]] w fun e w' => e = .returned (.int .i64 r) ∧ Below w.heap.size w w' := by
  cases h
  exact ref_any ⟨a0, a1, a2, a3, a4, a5, a6, l⟩ A c w hr hc
def squintref18_words.f (a0 a1 a2 a3 a4 a5 a6 : Int) (l : List Int) : Option (List ByteArray) :=
  if okX ⟨a0, a1, a2, a3, a4, a5, a6, l⟩ = true ∧ rngQ ⟨a0, a1, a2, a3, a4, a5, a6, l⟩ = true ∧ l.length ≤ 1099511627776 then some (wordsX ⟨a0, a1, a2, a3, a4, a5, a6, l⟩) else none
theorem squintref18_words.calls (a0 a1 a2 a3 a4 a5 a6 : Int) (A : Option Addr) (c : Nat) (l : List Int) (r : List ByteArray) (w : World) (hr : Kd.C (Kd.int .i64) w A l.length l) (hc : l.length ≤ c) (h : squintref18_words.f a0 a1 a2 a3 a4 a5 a6 l = some r) :
    Calls Tryd.prog 35 #[.agg #[.int .i64 a0, .int .i64 a1, .int .i64 a2, .int .i64 a3, .int .i64 a4, .int .i64 a5, .int .i64 a6, .slice A l.length c]] w fun e w' => ∃ v0_ : Value, e = .returned v0_ ∧ Kd.R Kd.string 9 w' w.heap.size (fun _ => True) v0_ r ∧ Below w.heap.size w w' := by
  unfold squintref18_words.f at h
  split at h
  · rename_i hh
    obtain ⟨h1, h2, h3⟩ := hh
    injection h with h
    subst h
    have ho := h1
    unfold okX at ho
    rw [Bool.and_eq_true] at ho
    have hk := of_decide_eq_true ho.1
    simp only at hk
    exact words_ref ⟨a0, a1, a2, a3, a4, a5, a6, l⟩ a0.toNat (by omega) (by omega) (by show a0 = _; omega) ho.2 ((rngQ_iff _).1 h2) h3 A c w hr
  · cases h
end Go.Proofs.YtiapfhlipoomaaaDoor.Given
end
section
namespace Go.Proofs.YtiapfhlipoomaaaDoor.Print
open Go.Proofs.YtiapfhlipoomaaaDoor.Given
open Go.RowKit Go.Proofs.YtiapfhlipoomaaaDoorW.PrintWords Go.Proofs.YtiapfhlipoomaaaDoorW.PrintLast Go.Proofs.YtiapfhlipoomaaaDoorW.PrintMore
attribute [local go_sem] max2_int min2_int max_two min_two max_three min_three max_four min_four
set_option linter.unusedVariables false
set_option linter.unusedSimpArgs false
mutual
def squintref18_Print.l0 : Nat → List (S24) → List Int → Int → Option (ByteArray × Int)
  | 0, _, _, _ => none
  | k + 1, x0, x4, x5 => if x5 < (x0.length : Int) then (if 0 ≤ x5 then ((squintref18_Check.f ((rd_T24 x0 x5).f0) ((rd_T24 x0 x5).f1) ((rd_T24 x0 x5).f2) ((rd_T24 x0 x5).f3) ((rd_T24 x0 x5).f4) ((rd_T24 x0 x5).f5) ((rd_T24 x0 x5).f6) ((rd_T24 x0 x5).f7)).bind fun t216 => (if t216 = 0 then ((squintref18_words.f ((rd_T24 x0 x5).f0) ((rd_T24 x0 x5).f1) ((rd_T24 x0 x5).f2) ((rd_T24 x0 x5).f3) ((rd_T24 x0 x5).f4) ((rd_T24 x0 x5).f5) ((rd_T24 x0 x5).f6) ((rd_T24 x0 x5).f7)).bind fun t218 => (squintref18_Print.l1 k x0 x4 x5 t218 0)) else (some ((⟨#[]⟩ : ByteArray), 180)))) else (none)) else (some (strOfNums x4, 0))
def squintref18_Print.l1 : Nat → List (S24) → List Int → Int → List ByteArray → Int → Option (ByteArray × Int)
  | 0, _, _, _, _, _ => none
  | k + 1, x0, x4, x5, x6, x7 => if x7 < (x6.length : Int) then (if x7 > 0 then (if x4.length < 140737488355328 then ((some (x4 ++ [32] : List Int)).bind fun y221 => (if 0 ≤ x7 then (if y221.length + (rdOf ByteArray.empty x6 x7).size < 140737488355328 then (squintref18_Print.l1 k x0 (y221 ++ bytesOf (rdOf ByteArray.empty x6 x7)) x5 x6 (wrap64 (x7 + 1))) else (none)) else (none))) else (none)) else (if 0 ≤ x7 then (if x4.length + (rdOf ByteArray.empty x6 x7).size < 140737488355328 then (squintref18_Print.l1 k x0 (x4 ++ bytesOf (rdOf ByteArray.empty x6 x7)) x5 x6 (wrap64 (x7 + 1))) else (none)) else (none))) else (if x4.length < 140737488355328 then (squintref18_Print.l0 k x0 (x4 ++ [10]) (wrap64 (x5 + 1))) else (none))
end
def squintref18_Print.f (k : Nat) (l0 : List (S24)) : Option (ByteArray × Int) := squintref18_Print.l0 k l0 (([] : List Int)) 0
set_option maxHeartbeats 8000000 in
set_option maxRecDepth 100000 in
theorem squintref18_Print.calls (k : Nat) (A0 : Option Addr) (c0 : Nat) (l0 : List (S24)) (r1 : ByteArray) (r2 : Int) (w : World) (hr0 : Kd.C k24 w A0 l0.length l0) (hc0 : l0.length ≤ c0) (h : squintref18_Print.f k l0 = some (r1, r2)) :
    Calls Tryd.prog 15 #[.slice A0 l0.length c0] w fun e w' => e = .returned (.tuple #[.string r1, .int .i64 r2]) ∧ Below w.heap.size w w' := by
  have hu24 := Tryd.underlying24
  have HR0 := Aside0.mk hr0
  have HC0 := Aside0.mk hc0
  clear hr0 hc0
  have HB := Aside0.mk (Below.refl w.heap.size w)
  have H : (squintref18_Print.l0 k l0 (([] : List Int)) 0) = some (r1, r2) := h
  clear h
  obtain ⟨y212, hy212⟩ : ∃ y_ : List Int, y_ = (([] : List Int)) := ⟨_, rfl⟩
  replace H : (squintref18_Print.l0 k l0 y212 0) = some (r1, r2) := by first | (rw [hy212]; with_reducible exact H) | (have H2_ := (Option.bind_some _ _).symm.trans H; rw [hy212]; with_reducible exact H2_) | (have H2_ := (Option.bind_some _ _).symm.trans H; with_reducible exact H2_) | with_reducible exact H | (rw [hy212]; exact H) | exact H
  have Ny212 := Aside0.mk hy212
  clear hy212
  have H' := Aside0.mk H
  clear H
  go_enter Tryd.func15, Tryd.ntmps15
  go_wp2_with (first | ((with_reducible refine gate_dst (N := 8) rfl ?_); refine Kd.R_lit (Kd.int .u8) _ 5 ?hg (N := 8) ?hd (xs := ([] : List Int)) (inner := []) (ok := fun _ => True) (okp := fun _ => True) ?hr ?hp (fun _ hk => hk) trivial (Below.refl _ _) (Nat.le_refl _) (by simp) ?_; (case hd => rfl); (case hg => rfl); (case hr => first | (go_simp; done) | (go_simp; rfl)); (case hp => exact (Reps.none _ _)); intro v213 w2 ho3 hb hg_ hnew_; clear hg_ hnew_; (first | rw [← Ny212.out] at ho3 | (simp only [Int.reduceToNat] at ho3; rw [← Ny212.out] at ho3)); have n0_ := Aside0.mk (Kd.R_lower ho3 (below_size (by repeat (first | (with_reducible first | exact HB.out | apply below_alloc | apply pw_below_drewN | apply below_drew1) | exact HB.out)))); have n1_ := Aside0.mk (below_step (by repeat (first | (with_reducible first | exact HB.out | apply below_alloc | apply pw_below_drewN | apply below_drew1) | exact HB.out)) hb); clear HB; have HO214 := n0_; have HB := n1_; clear n0_ n1_; clear hb ho3))
  go_loopg [4, 5] k (fun kq v4 v5 w' => ∃ (x4_1 : List Int) (x5_1 : Int), v5 = .int .i64 x5_1 ∧ Aside0 (squintref18_Print.l0 kq l0 x4_1 x5_1 = some (r1, r2)) ∧ Aside0 (kq ≤ k) ∧ Aside0 (Kd.R (Kd.int .u8) 5 w' w.heap.size (fun _ => True) v4 x4_1) ∧ Aside0 (Below w.heap.size w w'))
  case atStart => exact ⟨(y212), (0), (by first | rfl | (simp; done) | (simp [*]; done)), H', ⟨Nat.le_refl _⟩, ⟨by (with_reducible repeat (first | apply Kd.R_alloc | apply Kd.R_drewN | apply Kd.R_drew)); exact HO214.out⟩, ⟨by repeat (first | (with_reducible first | exact HB.out | apply below_alloc | apply pw_below_drewN | apply below_drew1) | exact HB.out)⟩⟩
  case round =>
    clear H'
    try clear c1
    try clear p2
    obtain ⟨x4_1, x5_1, rfl, HA, HK1, HO_4, HB⟩ := hrel
    cases gk with
    | zero => exact absurd HA.out (by simp [squintref18_Print.l0])
    | succ k1 =>
      have H := HA.out
      clear HA
      simp only [squintref18_Print.l0] at H
      by_cases c4 : x5_1 < (l0.length : Int)
      · rw [if_pos c4] at H
        have c4b0 : decide (x5_1 < (l0.length : Int)) = true := decide_eq_true c4
        clear c4
        by_cases c5 : 0 ≤ x5_1
        · rw [if_pos c5] at H
          have c5b0 : decide (0 ≤ x5_1) = true := decide_eq_true c5
          clear c5
          replace H := Option.bind_eq_some_iff.mp H
          obtain ⟨t216, A60, H⟩ := H
          replace H : (if t216 = 0 then ((squintref18_words.f ((rd_T24 l0 x5_1).f0) ((rd_T24 l0 x5_1).f1) ((rd_T24 l0 x5_1).f2) ((rd_T24 l0 x5_1).f3) ((rd_T24 l0 x5_1).f4) ((rd_T24 l0 x5_1).f5) ((rd_T24 l0 x5_1).f6) ((rd_T24 l0 x5_1).f7)).bind fun t218 => (squintref18_Print.l1 k1 l0 x4_1 x5_1 t218 0)) else (some ((⟨#[]⟩ : ByteArray), 180))) = some (r1, r2) := H
          have A6 := Aside0.mk A60
          clear A60
          by_cases c7 : t216 = 0
          · rw [if_pos c7] at H
            have c7b0 : (t216 == 0) = true := beq_iff_eq.mpr c7
            have c7b1 : (t216 != 0) = false := bne_eq_false_iff_eq.mpr c7
            clear c7
            replace H := Option.bind_eq_some_iff.mp H
            obtain ⟨t218, A80, H⟩ := H
            replace H : (squintref18_Print.l1 k1 l0 x4_1 x5_1 t218 0) = some (r1, r2) := H
            have A8 := Aside0.mk A80
            clear A80
            have H' := Aside0.mk H
            clear H
            have p215 : 0 ≤ (x5_1 : Int) := of_decide_eq_true (by first | (with_reducible assumption) | assumption)
            have q215 : x5_1 < (l0.length : Int) := of_decide_eq_true (by first | (with_reducible assumption) | assumption)
            obtain ⟨ad215, A215_7, c215_7, e215, hx215_0, hx215_1, hx215_2, hx215_3, hx215_4, hx215_5, hx215_6, hx215_7, hl215_7, hi215_7⟩ := at_T24 HR0.out x5_1 p215 q215
            cases e215
            replace hx215_0 := (HB.out.cell (World.block_lt_of_cell? w _ hx215_0)).trans hx215_0
            replace hx215_1 := (HB.out.cell (World.block_lt_of_cell? w _ hx215_1)).trans hx215_1
            replace hx215_2 := (HB.out.cell (World.block_lt_of_cell? w _ hx215_2)).trans hx215_2
            replace hx215_3 := (HB.out.cell (World.block_lt_of_cell? w _ hx215_3)).trans hx215_3
            replace hx215_4 := (HB.out.cell (World.block_lt_of_cell? w _ hx215_4)).trans hx215_4
            replace hx215_5 := (HB.out.cell (World.block_lt_of_cell? w _ hx215_5)).trans hx215_5
            replace hx215_6 := (HB.out.cell (World.block_lt_of_cell? w _ hx215_6)).trans hx215_6
            replace hx215_7 := (HB.out.cell (World.block_lt_of_cell? w _ hx215_7)).trans hx215_7
            have HR215_7 := Aside0.mk hi215_7
            have HC215_7 := Aside0.mk hl215_7
            clear hi215_7 hl215_7
            replace p215 := eq_true p215
            replace q215 := eq_true q215
            go_wp2_with (first | ((with_reducible refine gate_callee (f := 11) rfl ?_); refine goesL_ (some 19) rfl rfl Tryd.func11 (by kernel_rfl) rfl #[.agg #[.int .i64 ((rd_T24 l0 x5_1).f0), .int .i64 ((rd_T24 l0 x5_1).f1), .int .i64 ((rd_T24 l0 x5_1).f2), .int .i64 ((rd_T24 l0 x5_1).f3), .int .i64 ((rd_T24 l0 x5_1).f4), .int .i64 ((rd_T24 l0 x5_1).f5), .int .i64 ((rd_T24 l0 x5_1).f6), .slice A215_7 ((rd_T24 l0 x5_1).f7).length c215_7]] rfl (by (try simp only [List.map_toArray, List.map_cons, List.map_nil]); first | done | rfl | (simp only [List.length_drop, List.length_take]; rfl)) ?_; (with_reducible refine (squintref18_Check.calls ((rd_T24 l0 x5_1).f0) ((rd_T24 l0 x5_1).f1) ((rd_T24 l0 x5_1).f2) ((rd_T24 l0 x5_1).f3) ((rd_T24 l0 x5_1).f4) ((rd_T24 l0 x5_1).f5) ((rd_T24 l0 x5_1).f6) _ _ ((rd_T24 l0 x5_1).f7) t216 _ ?side1 ?side2 A6.out).mono ?_); (case side1 => repeat (first | exact (Kd.C_below HR215_7.out HB.out) | (with_reducible refine Kd.C_alloc ?_ _) | (with_reducible refine Kd.C_drewN ?_ _) | (with_reducible refine Kd.C_drew ?_))); (case side2 => exact HC215_7.out); rintro e w9 ⟨rfl, hb⟩; refine ⟨_, rfl, ?_⟩; have n0_ := Aside0.mk (Kd.R_below (by (with_reducible repeat (first | apply Kd.R_alloc | apply Kd.R_drewN | apply Kd.R_drew)); exact HO_4.out) hb); have n1_ := Aside0.mk (below_step (by repeat (first | (with_reducible first | exact HB.out | apply below_alloc | apply pw_below_drewN | apply below_drew1) | exact HB.out)) hb); clear HO_4; clear HB; have HO_4 := n0_; have HB := n1_; clear n0_ n1_; (try clear hb); (try clear hb2); (try clear hk); (try clear hi); have p217 : 0 ≤ (x5_1 : Int) := of_decide_eq_true (by first | (with_reducible assumption) | assumption); have q217 : x5_1 < (l0.length : Int) := of_decide_eq_true (by first | (with_reducible assumption) | assumption); obtain ⟨ad217, A217_7, c217_7, e217, hx217_0, hx217_1, hx217_2, hx217_3, hx217_4, hx217_5, hx217_6, hx217_7, hl217_7, hi217_7⟩ := at_T24 HR0.out x5_1 p217 q217; obtain rfl : ad215 = ad217 := (by injection e217); replace hx217_0 := (HB.out.cell (World.block_lt_of_cell? w _ hx217_0)).trans hx217_0; replace hx217_1 := (HB.out.cell (World.block_lt_of_cell? w _ hx217_1)).trans hx217_1; replace hx217_2 := (HB.out.cell (World.block_lt_of_cell? w _ hx217_2)).trans hx217_2; replace hx217_3 := (HB.out.cell (World.block_lt_of_cell? w _ hx217_3)).trans hx217_3; replace hx217_4 := (HB.out.cell (World.block_lt_of_cell? w _ hx217_4)).trans hx217_4; replace hx217_5 := (HB.out.cell (World.block_lt_of_cell? w _ hx217_5)).trans hx217_5; replace hx217_6 := (HB.out.cell (World.block_lt_of_cell? w _ hx217_6)).trans hx217_6; replace hx217_7 := (HB.out.cell (World.block_lt_of_cell? w _ hx217_7)).trans hx217_7; have HR217_7 := Aside0.mk hi217_7; have HC217_7 := Aside0.mk hl217_7; clear hi217_7 hl217_7; replace p217 := eq_true p217; replace q217 := eq_true q217) | ((with_reducible refine gate_callee (f := 35) rfl ?_); refine goesL_ (some 25) rfl rfl Tryd.func35 (by kernel_rfl) rfl #[.agg #[.int .i64 ((rd_T24 l0 x5_1).f0), .int .i64 ((rd_T24 l0 x5_1).f1), .int .i64 ((rd_T24 l0 x5_1).f2), .int .i64 ((rd_T24 l0 x5_1).f3), .int .i64 ((rd_T24 l0 x5_1).f4), .int .i64 ((rd_T24 l0 x5_1).f5), .int .i64 ((rd_T24 l0 x5_1).f6), .slice A217_7 ((rd_T24 l0 x5_1).f7).length c217_7]] rfl (by (try simp only [List.map_toArray, List.map_cons, List.map_nil]); first | done | rfl | (simp only [List.length_drop, List.length_take]; rfl)) ?_; (with_reducible refine (squintref18_words.calls ((rd_T24 l0 x5_1).f0) ((rd_T24 l0 x5_1).f1) ((rd_T24 l0 x5_1).f2) ((rd_T24 l0 x5_1).f3) ((rd_T24 l0 x5_1).f4) ((rd_T24 l0 x5_1).f5) ((rd_T24 l0 x5_1).f6) _ _ ((rd_T24 l0 x5_1).f7) t218 _ ?side1 ?side2 A8.out).mono ?_); (case side1 => repeat (first | exact (Kd.C_below HR217_7.out HB.out) | (with_reducible refine Kd.C_alloc ?_ _) | (with_reducible refine Kd.C_drewN ?_ _) | (with_reducible refine Kd.C_drew ?_))); (case side2 => exact HC217_7.out); rintro e w10 ⟨v219, rfl, ho0, hb⟩; refine ⟨_, rfl, ?_⟩; have n0_ := Aside0.mk (Kd.R_below (by (with_reducible repeat (first | apply Kd.R_alloc | apply Kd.R_drewN | apply Kd.R_drew)); exact HO_4.out) hb); have n1_ := Aside0.mk (Kd.R_lower ho0 (below_size (by repeat (first | (with_reducible first | exact HB.out | apply below_alloc | apply pw_below_drewN | apply below_drew1) | exact HB.out)))); have n2_ := Aside0.mk (below_step (by repeat (first | (with_reducible first | exact HB.out | apply below_alloc | apply pw_below_drewN | apply below_drew1) | exact HB.out)) hb); clear HO_4; clear HB; have HO_4 := n0_; have HO220 := n1_; have HB := n2_; clear n0_ n1_ n2_; (try clear hb); (try clear hb2); (try clear hk); (try clear hi); (try clear ho0)))
            go_loopg [4, 7] k1 (fun kq v4 v7 w' => ∃ (x4_2 : List Int) (x7_2 : Int), v7 = .int .i64 x7_2 ∧ Aside0 (squintref18_Print.l1 kq l0 x4_2 x5_1 t218 x7_2 = some (r1, r2)) ∧ Aside0 (kq ≤ k1) ∧ Aside0 (Kd.R (Kd.int .u8) 5 w' w.heap.size (fun _ => True) v4 x4_2) ∧ Aside0 (Kd.R Kd.string 9 w' w.heap.size (fun _ => True) v219 t218) ∧ Aside0 (Below w.heap.size w w'))
            case atStart => exact ⟨(x4_1), (0), (by first | rfl | (simp; done) | (simp [*]; done)), H', ⟨Nat.le_refl _⟩, ⟨by (with_reducible repeat (first | apply Kd.R_alloc | apply Kd.R_drewN | apply Kd.R_drew)); exact HO_4.out⟩, ⟨by (with_reducible repeat (first | apply Kd.R_alloc | apply Kd.R_drewN | apply Kd.R_drew)); exact HO220.out⟩, ⟨by repeat (first | (with_reducible first | exact HB.out | apply below_alloc | apply pw_below_drewN | apply below_drew1) | exact HB.out)⟩⟩
            case round =>
              clear H'
              try clear c1
              try clear c2
              try clear p2
              try clear q2
              try clear hx2
              try clear c3
              try clear c4
              try clear c4b0
              try clear c5
              try clear c5b0
              try clear c7
              try clear c7b0
              try clear c7b1
              try clear hx215_0
              try clear hx215_1
              try clear hx215_2
              try clear hx215_3
              try clear hx215_4
              try clear hx215_5
              try clear hx215_6
              try clear hx215_7
              try clear hx217_0
              try clear hx217_1
              try clear hx217_2
              try clear hx217_3
              try clear hx217_4
              try clear hx217_5
              try clear hx217_6
              try clear hx217_7
              try clear p2
              try clear p215
              try clear p217
              try clear q215
              try clear q217
              obtain ⟨x4_2, x7_2, rfl, HA, HK2, HO_4, HO_6, HB⟩ := hrel
              cases gk with
              | zero => exact absurd HA.out (by simp [squintref18_Print.l1])
              | succ k2 =>
                have H := HA.out
                clear HA
                simp only [squintref18_Print.l1] at H
                by_cases c11 : x7_2 < (t218.length : Int)
                · rw [if_pos c11] at H
                  have c11b0 : decide (x7_2 < (t218.length : Int)) = true := decide_eq_true c11
                  clear c11
                  by_cases c12 : x7_2 > 0
                  · rw [if_pos c12] at H
                    have c12b0 : decide (0 < x7_2) = true := decide_eq_true c12
                    clear c12
                    by_cases c13 : x4_2.length < 140737488355328
                    · rw [if_pos c13] at H
                      have LMc13 := Aside0.mk c13
                      clear c13
                      obtain ⟨y221, hy221⟩ : ∃ y_ : List Int, y_ = (x4_2 ++ [32]) := ⟨_, rfl⟩
                      replace H : (if 0 ≤ x7_2 then (if y221.length + (rdOf ByteArray.empty t218 x7_2).size < 140737488355328 then (squintref18_Print.l1 k2 l0 (y221 ++ bytesOf (rdOf ByteArray.empty t218 x7_2)) x5_1 t218 (wrap64 (x7_2 + 1))) else (none)) else (none)) = some (r1, r2) := by first | (rw [hy221]; with_reducible exact H) | (have H2_ := (Option.bind_some _ _).symm.trans H; rw [hy221]; with_reducible exact H2_) | (have H2_ := (Option.bind_some _ _).symm.trans H; with_reducible exact H2_) | with_reducible exact H | (rw [hy221]; exact H) | exact H
                      have Ny221 := Aside0.mk hy221
                      clear hy221
                      by_cases c14 : 0 ≤ x7_2
                      · rw [if_pos c14] at H
                        have c14b0 : decide (0 ≤ x7_2) = true := decide_eq_true c14
                        clear c14
                        by_cases c15 : y221.length + (rdOf ByteArray.empty t218 x7_2).size < 140737488355328
                        · rw [if_pos c15] at H
                          have LMc15 := Aside0.mk c15
                          clear c15
                          obtain ⟨y225, hy225⟩ : ∃ y_ : List Int, y_ = (y221 ++ bytesOf (rdOf ByteArray.empty t218 x7_2)) := ⟨_, rfl⟩
                          replace H : (squintref18_Print.l1 k2 l0 y225 x5_1 t218 (wrap64 (x7_2 + 1))) = some (r1, r2) := by first | (rw [hy225]; with_reducible exact H) | (have H2_ := (Option.bind_some _ _).symm.trans H; rw [hy225]; with_reducible exact H2_) | (have H2_ := (Option.bind_some _ _).symm.trans H; with_reducible exact H2_) | with_reducible exact H | (rw [hy225]; exact H) | exact H
                          have Ny225 := Aside0.mk hy225
                          clear hy225
                          have H' := Aside0.mk H
                          clear H
                          obtain ⟨Ao16, co16, eo16⟩ := Kd.R_slice HO_6.out
                          subst eo16
                          go_wp2_with (first | ((with_reducible refine gate_builtin (b := .append) (xs := #[.tmp 34, .tmp 35]) rfl ?_); at_builtin; refine Kd.R_append (Kd.int .u8) (w0 := w) w.heap.size rfl (.tmp 34) (.tmp 35) 59 5 (.int .u8 0) 1 rfl Tryd.underlying59 info5 rfl (by decide) (by omega) u4 x4_2 32 [.int .u8 32] (fun _ => True) (fun _ => False) rfl rfl ?aP (fun _ hk => hk.elim) ?aF ?aO ?aB ?aS ?aL ?_; (case aP => exact rfl); (case aB => exact (by repeat (first | (with_reducible first | exact HB.out | apply below_alloc | apply pw_below_drewN | apply below_drew1) | exact HB.out))); (case aF => exact (fun _ _ => trivial)); (case aO => exact (by (with_reducible repeat (first | apply Kd.R_alloc | apply Kd.R_drewN | apply Kd.R_drew)); exact HO_4.out)); (case aS => exact (below_size (by repeat (first | (with_reducible first | exact HB.out | apply below_alloc | apply pw_below_drewN | apply below_drew1) | exact HB.out)))); (case aL => have := LMc13.out; omega); intro v222 w17 ho hb hg hat; rw [← Ny221.out] at ho; have n0_ := Aside0.mk (Kd.R_over' (by (with_reducible repeat (first | apply Kd.R_alloc | apply Kd.R_drewN | apply Kd.R_drew)); exact HO_6.out) (Kd.R_typed (by (with_reducible repeat (first | apply Kd.R_alloc | apply Kd.R_drewN | apply Kd.R_drew)); exact HO_4.out)) (by decide) hg); have n1_ := Aside0.mk (hb); have n2_ := Aside0.mk (ho); clear HO_6; clear HB; clear HO_4; have HO_6 := n0_; have HB := n1_; have HO223 := n2_; clear n0_ n1_ n2_; clear ho hb hg hat; have p224 : 0 ≤ (x7_2 : Int) := of_decide_eq_true (by first | (with_reducible assumption) | assumption); have q224 : x7_2 < (t218.length : Int) := of_decide_eq_true (by first | (with_reducible assumption) | assumption); obtain ⟨ad224, e224, hx224_0⟩ := Kd.at_string (Kd.R_reads' HO_6.out).2.2 x7_2 p224 q224; cases e224; replace p224 := eq_true p224; replace q224 := eq_true q224) | (at_builtin; refine print_append_str (w0 := w) w.heap.size rfl (.tmp 37) _ 59 9 5 rfl Tryd.underlying59 Tryd.underlying9 info5 v222 y221 (rdOf ByteArray.empty t218 x7_2) rfl rfl ?aO ?aB ?aS ?aL ?_; (case aB => exact (by repeat (first | (with_reducible first | exact HB.out | apply below_alloc | apply pw_below_drewN | apply below_drew1) | exact HB.out))); (case aO => exact (Kd.own_of_R (by (with_reducible repeat (first | apply Kd.R_alloc | apply Kd.R_drewN | apply Kd.R_drew)); exact HO223.out))); (case aS => exact (below_size (by repeat (first | (with_reducible first | exact HB.out | apply below_alloc | apply pw_below_drewN | apply below_drew1) | exact HB.out)))); (case aL => have := LMc15.out; omega); intro v226 w18 ho0 hb hg; have ho := Kd.R_of_own (h1 := fun _ => rfl) (ok := fun _ => True) ho0 (fun _ _ => trivial); clear ho0; have hat := True.intro; rw [← Ny225.out] at ho; change Kd.R (Kd.int .u8) 5 w18 w.heap.size (fun _ => True) v226 y225 at ho; have n0_ := Aside0.mk (Kd.R_over' (by (with_reducible repeat (first | apply Kd.R_alloc | apply Kd.R_drewN | apply Kd.R_drew)); exact HO_6.out) (Kd.R_typed (by (with_reducible repeat (first | apply Kd.R_alloc | apply Kd.R_drewN | apply Kd.R_drew)); exact HO223.out)) (by decide) hg); have n1_ := Aside0.mk (hb); have n2_ := Aside0.mk (ho); clear HO_6; clear HB; clear HO223; have HO_6 := n0_; have HB := n1_; have HO227 := n2_; clear n0_ n1_ n2_; clear ho hb hg hat))
                          go_roundg k2
                          case measure => have := HK1.out; have := HK2.out; omega
                          case rel => exact ⟨(y225), (wrap64 (x7_2 + 1)), (by first | rfl | (simp; done) | (simp [*]; done)), H', ⟨by have := HK1.out; have := HK2.out; omega⟩, ⟨by (with_reducible repeat (first | apply Kd.R_alloc | apply Kd.R_drewN | apply Kd.R_drew)); exact HO227.out⟩, ⟨by (with_reducible repeat (first | apply Kd.R_alloc | apply Kd.R_drewN | apply Kd.R_drew)); exact HO_6.out⟩, ⟨by repeat (first | (with_reducible first | exact HB.out | apply below_alloc | apply pw_below_drewN | apply below_drew1) | exact HB.out)⟩⟩
                        · rw [if_neg c15] at H
                          exact absurd H (by simp)
                      · rw [if_neg c14] at H
                        exact absurd H (by simp)
                    · rw [if_neg c13] at H
                      exact absurd H (by simp)
                  · rw [if_neg c12] at H
                    have c12b0 : decide (0 < x7_2) = false := decide_eq_false c12
                    clear c12
                    by_cases c19 : 0 ≤ x7_2
                    · rw [if_pos c19] at H
                      have c19b0 : decide (0 ≤ x7_2) = true := decide_eq_true c19
                      clear c19
                      by_cases c20 : x4_2.length + (rdOf ByteArray.empty t218 x7_2).size < 140737488355328
                      · rw [if_pos c20] at H
                        have LMc20 := Aside0.mk c20
                        clear c20
                        obtain ⟨y229, hy229⟩ : ∃ y_ : List Int, y_ = (x4_2 ++ bytesOf (rdOf ByteArray.empty t218 x7_2)) := ⟨_, rfl⟩
                        replace H : (squintref18_Print.l1 k2 l0 y229 x5_1 t218 (wrap64 (x7_2 + 1))) = some (r1, r2) := by first | (rw [hy229]; with_reducible exact H) | (have H2_ := (Option.bind_some _ _).symm.trans H; rw [hy229]; with_reducible exact H2_) | (have H2_ := (Option.bind_some _ _).symm.trans H; with_reducible exact H2_) | with_reducible exact H | (rw [hy229]; exact H) | exact H
                        have Ny229 := Aside0.mk hy229
                        clear hy229
                        have H' := Aside0.mk H
                        clear H
                        obtain ⟨Ao21, co21, eo21⟩ := Kd.R_slice HO_6.out
                        subst eo21
                        have p228 : 0 ≤ (x7_2 : Int) := of_decide_eq_true (by first | (with_reducible assumption) | assumption)
                        have q228 : x7_2 < (t218.length : Int) := of_decide_eq_true (by first | (with_reducible assumption) | assumption)
                        obtain ⟨ad228, e228, hx228_0⟩ := Kd.at_string (Kd.R_reads' HO_6.out).2.2 x7_2 p228 q228
                        cases e228
                        replace p228 := eq_true p228
                        replace q228 := eq_true q228
                        go_wp2_with (first | (at_builtin; refine print_append_str (w0 := w) w.heap.size rfl (.tmp 37) _ 59 9 5 rfl Tryd.underlying59 Tryd.underlying9 info5 u4 x4_2 (rdOf ByteArray.empty t218 x7_2) rfl rfl ?aO ?aB ?aS ?aL ?_; (case aB => exact (by repeat (first | (with_reducible first | exact HB.out | apply below_alloc | apply pw_below_drewN | apply below_drew1) | exact HB.out))); (case aO => exact (Kd.own_of_R (by (with_reducible repeat (first | apply Kd.R_alloc | apply Kd.R_drewN | apply Kd.R_drew)); exact HO_4.out))); (case aS => exact (below_size (by repeat (first | (with_reducible first | exact HB.out | apply below_alloc | apply pw_below_drewN | apply below_drew1) | exact HB.out)))); (case aL => have := LMc20.out; omega); intro v230 w22 ho0 hb hg; have ho := Kd.R_of_own (h1 := fun _ => rfl) (ok := fun _ => True) ho0 (fun _ _ => trivial); clear ho0; have hat := True.intro; rw [← Ny229.out] at ho; change Kd.R (Kd.int .u8) 5 w22 w.heap.size (fun _ => True) v230 y229 at ho; have n0_ := Aside0.mk (Kd.R_over' (by (with_reducible repeat (first | apply Kd.R_alloc | apply Kd.R_drewN | apply Kd.R_drew)); exact HO_6.out) (Kd.R_typed (by (with_reducible repeat (first | apply Kd.R_alloc | apply Kd.R_drewN | apply Kd.R_drew)); exact HO_4.out)) (by decide) hg); have n1_ := Aside0.mk (hb); have n2_ := Aside0.mk (ho); clear HO_6; clear HB; clear HO_4; have HO_6 := n0_; have HB := n1_; have HO231 := n2_; clear n0_ n1_ n2_; clear ho hb hg hat))
                        go_roundg k2
                        case measure => have := HK1.out; have := HK2.out; omega
                        case rel => exact ⟨(y229), (wrap64 (x7_2 + 1)), (by first | rfl | (simp; done) | (simp [*]; done)), H', ⟨by have := HK1.out; have := HK2.out; omega⟩, ⟨by (with_reducible repeat (first | apply Kd.R_alloc | apply Kd.R_drewN | apply Kd.R_drew)); exact HO231.out⟩, ⟨by (with_reducible repeat (first | apply Kd.R_alloc | apply Kd.R_drewN | apply Kd.R_drew)); exact HO_6.out⟩, ⟨by repeat (first | (with_reducible first | exact HB.out | apply below_alloc | apply pw_below_drewN | apply below_drew1) | exact HB.out)⟩⟩
                      · rw [if_neg c20] at H
                        exact absurd H (by simp)
                    · rw [if_neg c19] at H
                      exact absurd H (by simp)
                · rw [if_neg c11] at H
                  have c11b0 : decide (x7_2 < (t218.length : Int)) = false := decide_eq_false c11
                  clear c11
                  by_cases c23 : x4_2.length < 140737488355328
                  · rw [if_pos c23] at H
                    have LMc23 := Aside0.mk c23
                    clear c23
                    obtain ⟨y232, hy232⟩ : ∃ y_ : List Int, y_ = (x4_2 ++ [10]) := ⟨_, rfl⟩
                    replace H : (squintref18_Print.l0 k2 l0 y232 (wrap64 (x5_1 + 1))) = some (r1, r2) := by first | (rw [hy232]; with_reducible exact H) | (have H2_ := (Option.bind_some _ _).symm.trans H; rw [hy232]; with_reducible exact H2_) | (have H2_ := (Option.bind_some _ _).symm.trans H; with_reducible exact H2_) | with_reducible exact H | (rw [hy232]; exact H) | exact H
                    have Ny232 := Aside0.mk hy232
                    clear hy232
                    have H' := Aside0.mk H
                    clear H
                    obtain ⟨Ao24, co24, eo24⟩ := Kd.R_slice HO_6.out
                    subst eo24
                    go_wp2_with (first | ((with_reducible refine gate_builtin (b := .append) (xs := #[.tmp 43, .tmp 44]) rfl ?_); at_builtin; refine Kd.R_append (Kd.int .u8) (w0 := w) w.heap.size rfl (.tmp 43) (.tmp 44) 59 5 (.int .u8 0) 1 rfl Tryd.underlying59 info5 rfl (by decide) (by omega) u4 x4_2 10 [.int .u8 10] (fun _ => True) (fun _ => False) rfl rfl ?aP (fun _ hk => hk.elim) ?aF ?aO ?aB ?aS ?aL ?_; (case aP => exact rfl); (case aB => exact (by repeat (first | (with_reducible first | exact HB.out | apply below_alloc | apply pw_below_drewN | apply below_drew1) | exact HB.out))); (case aF => exact (fun _ _ => trivial)); (case aO => exact (by (with_reducible repeat (first | apply Kd.R_alloc | apply Kd.R_drewN | apply Kd.R_drew)); exact HO_4.out)); (case aS => exact (below_size (by repeat (first | (with_reducible first | exact HB.out | apply below_alloc | apply pw_below_drewN | apply below_drew1) | exact HB.out)))); (case aL => have := LMc23.out; omega); intro v233 w25 ho hb hg hat; rw [← Ny232.out] at ho; have n0_ := Aside0.mk (Kd.R_over' (by (with_reducible repeat (first | apply Kd.R_alloc | apply Kd.R_drewN | apply Kd.R_drew)); exact HO_6.out) (Kd.R_typed (by (with_reducible repeat (first | apply Kd.R_alloc | apply Kd.R_drewN | apply Kd.R_drew)); exact HO_4.out)) (by decide) hg); have n1_ := Aside0.mk (hb); have n2_ := Aside0.mk (ho); clear HO_6; clear HB; clear HO_4; have HO_6 := n0_; have HB := n1_; have HO234 := n2_; clear n0_ n1_ n2_; clear ho hb hg hat))
                    go_roundg k2
                    case measure => have := HK1.out; have := HK2.out; omega
                    case rel => exact ⟨(y232), (wrap64 (x5_1 + 1)), (by first | rfl | (simp; done) | (simp [*]; done)), H', ⟨by have := HK1.out; have := HK2.out; omega⟩, ⟨by (with_reducible repeat (first | apply Kd.R_alloc | apply Kd.R_drewN | apply Kd.R_drew)); exact HO234.out⟩, ⟨by repeat (first | (with_reducible first | exact HB.out | apply below_alloc | apply pw_below_drewN | apply below_drew1) | exact HB.out)⟩⟩
                  · rw [if_neg c23] at H
                    exact absurd H (by simp)
          · rw [if_neg c7] at H
            have c7b0 : (t216 == 0) = false := beq_eq_false_iff_ne.mpr c7
            have c7b1 : (t216 != 0) = true := bne_iff_ne.mpr c7
            simp only [Option.some.injEq, Prod.mk.injEq] at H
            obtain ⟨rfl, rfl⟩ := H
            have p215 : 0 ≤ (x5_1 : Int) := of_decide_eq_true (by first | (with_reducible assumption) | assumption)
            have q215 : x5_1 < (l0.length : Int) := of_decide_eq_true (by first | (with_reducible assumption) | assumption)
            obtain ⟨ad215, A215_7, c215_7, e215, hx215_0, hx215_1, hx215_2, hx215_3, hx215_4, hx215_5, hx215_6, hx215_7, hl215_7, hi215_7⟩ := at_T24 HR0.out x5_1 p215 q215
            cases e215
            replace hx215_0 := (HB.out.cell (World.block_lt_of_cell? w _ hx215_0)).trans hx215_0
            replace hx215_1 := (HB.out.cell (World.block_lt_of_cell? w _ hx215_1)).trans hx215_1
            replace hx215_2 := (HB.out.cell (World.block_lt_of_cell? w _ hx215_2)).trans hx215_2
            replace hx215_3 := (HB.out.cell (World.block_lt_of_cell? w _ hx215_3)).trans hx215_3
            replace hx215_4 := (HB.out.cell (World.block_lt_of_cell? w _ hx215_4)).trans hx215_4
            replace hx215_5 := (HB.out.cell (World.block_lt_of_cell? w _ hx215_5)).trans hx215_5
            replace hx215_6 := (HB.out.cell (World.block_lt_of_cell? w _ hx215_6)).trans hx215_6
            replace hx215_7 := (HB.out.cell (World.block_lt_of_cell? w _ hx215_7)).trans hx215_7
            have HR215_7 := Aside0.mk hi215_7
            have HC215_7 := Aside0.mk hl215_7
            clear hi215_7 hl215_7
            replace p215 := eq_true p215
            replace q215 := eq_true q215
            go_wp2_with (first | ((with_reducible refine gate_callee (f := 11) rfl ?_); refine goesL_ (some 19) rfl rfl Tryd.func11 (by kernel_rfl) rfl #[.agg #[.int .i64 ((rd_T24 l0 x5_1).f0), .int .i64 ((rd_T24 l0 x5_1).f1), .int .i64 ((rd_T24 l0 x5_1).f2), .int .i64 ((rd_T24 l0 x5_1).f3), .int .i64 ((rd_T24 l0 x5_1).f4), .int .i64 ((rd_T24 l0 x5_1).f5), .int .i64 ((rd_T24 l0 x5_1).f6), .slice A215_7 ((rd_T24 l0 x5_1).f7).length c215_7]] rfl (by (try simp only [List.map_toArray, List.map_cons, List.map_nil]); first | done | rfl | (simp only [List.length_drop, List.length_take]; rfl)) ?_; (with_reducible refine (squintref18_Check.calls ((rd_T24 l0 x5_1).f0) ((rd_T24 l0 x5_1).f1) ((rd_T24 l0 x5_1).f2) ((rd_T24 l0 x5_1).f3) ((rd_T24 l0 x5_1).f4) ((rd_T24 l0 x5_1).f5) ((rd_T24 l0 x5_1).f6) _ _ ((rd_T24 l0 x5_1).f7) t216 _ ?side1 ?side2 A6.out).mono ?_); (case side1 => repeat (first | exact (Kd.C_below HR215_7.out HB.out) | (with_reducible refine Kd.C_alloc ?_ _) | (with_reducible refine Kd.C_drewN ?_ _) | (with_reducible refine Kd.C_drew ?_))); (case side2 => exact HC215_7.out); rintro e w26 ⟨rfl, hb⟩; refine ⟨_, rfl, ?_⟩; have n0_ := Aside0.mk (Kd.R_below (by (with_reducible repeat (first | apply Kd.R_alloc | apply Kd.R_drewN | apply Kd.R_drew)); exact HO_4.out) hb); have n1_ := Aside0.mk (below_step (by repeat (first | (with_reducible first | exact HB.out | apply below_alloc | apply pw_below_drewN | apply below_drew1) | exact HB.out)) hb); clear HO_4; clear HB; have HO_4 := n0_; have HB := n1_; clear n0_ n1_; (try clear hb); (try clear hb2); (try clear hk); (try clear hi)))
            go_ret2
            exact ⟨by first | rfl | (simp [errW_none, errW_some] <;> rfl) | (simp [*, errW_none, errW_some] <;> rfl), by repeat (first | (with_reducible first | exact HB.out | apply below_alloc | apply pw_below_drewN | apply below_drew1) | exact HB.out)⟩
        · rw [if_neg c5] at H
          exact absurd H (by simp)
      · rw [if_neg c4] at H
        have c4b0 : decide (x5_1 < (l0.length : Int)) = false := decide_eq_false c4
        clear c4
        simp only [Option.some.injEq, Prod.mk.injEq] at H
        obtain ⟨rfl, rfl⟩ := H
        have hcv27 := own_string (P := Tryd.prog) Tryd.underlying59 Tryd.underlying5 Tryd.underlying9 (Kd.own_of_R HO_4.out)
        go_wp2
        go_ret2
        exact ⟨by first | rfl | (simp [errW_none, errW_some] <;> rfl) | (simp [*, errW_none, errW_some] <;> rfl), by repeat (first | (with_reducible first | exact HB.out | apply below_alloc | apply pw_below_drewN | apply below_drew1) | exact HB.out)⟩
end Go.Proofs.YtiapfhlipoomaaaDoor.Print
end
section
namespace Go.Proofs.YtiapfhlipoomaaaDoor.Given
open Go.RowKit Go.Proofs.YtiapfhlipoomaaaDoorW.PrintWords Go.Proofs.YtiapfhlipoomaaaDoorW.PrintLast Go.Proofs.YtiapfhlipoomaaaDoorW.PrintMore Go.Proofs.YtiapfhlipoomaaaDoor.Print
set_option linter.unusedVariables false
set_option linter.unusedSimpArgs false
theorem str_bytes (s : ByteArray) : strOfNums (bytesOf s) = s := by
  apply bytes_ext
  unfold strOfNums bytesOf
  rw [List.map_map]
  simp [Function.comp_def]
theorem bytesOf_app (a b : ByteArray) : bytesOf (a ++ b) = bytesOf a ++ bytesOf b := by
  unfold bytesOf
  rw [app_list, List.map_append]
def intsU (l : List UInt8) : List Int := l.map fun b => (b.toNat : Int)
theorem words_run (l : List S24) (i : Int) (ws : List ByteArray) (hwn : ws.length ≤ 140737488355328) : ∀ (n j m : Nat) (acc : List Int), ws.length - j = n → 1 ≤ j → j ≤ ws.length → acc.length + ((ws.drop j).flatMap fun w => 32 :: w.data.toList).length < 140737488355328 → i < 9223372036854775807 → 0 ≤ i →
    squintref18_Print.l1 (m + 1 + n) l acc i ws (j : Int) = squintref18_Print.l0 m l (acc ++ intsU ((ws.drop j).flatMap fun w => 32 :: w.data.toList) ++ [10]) (i + 1)
  | 0, j, m, acc, hn, h1, hj, hs, hi, hi0 => by
    obtain rfl : j = ws.length := by omega
    rw [List.drop_length] at hs ⊢
    simp only [List.flatMap_nil, List.length_nil, Nat.add_zero] at hs ⊢
    unfold squintref18_Print.l1
    rw [if_neg (by omega), if_pos (by omega), show wrap64 (i + 1) = i + 1 by simp only [wrap64]; omega]
    simp [intsU]
  | n + 1, j, m, acc, hn, h1, hj, hs, hi, hi0 => by
    have hlt : j < ws.length := by omega
    have hd := List.drop_eq_getElem_cons hlt
    have hr : rdOf ByteArray.empty ws (j : Int) = ws[j] := by simp [rdOf, hlt]
    rw [hd, List.flatMap_cons, List.length_append, List.length_cons] at hs
    have e : (ws[j]).data.toList.length = (ws[j]).size := list_size _
    rw [e] at hs
    rw [show m + 1 + (n + 1) = (m + 1 + n) + 1 by omega]
    unfold squintref18_Print.l1
    rw [if_pos (by omega), if_pos (by omega), if_pos (by omega)]
    simp only [Option.bind_some]
    rw [if_pos (by omega), hr, if_pos (by simp only [List.length_append, List.length_cons, List.length_nil]; omega), show wrap64 ((j : Int) + 1) = ((j + 1 : Nat) : Int) by simp only [wrap64]; omega]
    rw [words_run l i ws hwn n (j + 1) m _ (by omega) (by omega) (by omega) (by simp only [List.length_append, List.length_cons, List.length_nil, bytesOf_length]; omega) hi hi0, hd, List.flatMap_cons]
    congr 1
    simp [intsU, bytesOf]
theorem words_run0 (l : List S24) (i : Int) (w : ByteArray) (ws : List ByteArray) (m : Nat) (acc : List Int) (hl : ws.length < 140737488355328) (hs : acc.length + (joinB (w :: ws)).size < 140737488355328) (hi : i < 9223372036854775807) (hi0 : 0 ≤ i) :
    squintref18_Print.l1 (m + 1 + ws.length + 1) l acc i (w :: ws) 0 = squintref18_Print.l0 m l (acc ++ bytesOf (joinB (w :: ws)) ++ [10]) (i + 1) := by
  have hj := join_bytes w ws
  have hjl : (joinB (w :: ws)).size = w.size + (ws.flatMap fun w => 32 :: w.data.toList).length := by
    rw [← list_size, hj]
    unfold joinS
    rw [List.length_append, list_size, List.flatMap_map]
  unfold squintref18_Print.l1
  rw [if_pos (by simp only [List.length_cons]; omega), if_neg (by omega), if_pos (by omega)]
  have hr : rdOf ByteArray.empty (w :: ws) 0 = w := rfl
  rw [hr, if_pos (by omega), show wrap64 (0 + 1) = ((1 : Nat) : Int) by simp only [wrap64]; omega]
  have := words_run l i (w :: ws) (by simp only [List.length_cons]; omega) ws.length 1 m (acc ++ bytesOf w) (by simp) (by omega) (by simp) (by rw [List.drop_one, List.tail_cons, List.length_append, bytesOf_length]; omega) hi hi0
  rw [this, List.drop_one, List.tail_cons]
  congr 1
  have e : bytesOf (joinB (w :: ws)) = bytesOf w ++ intsU (ws.flatMap fun w => 32 :: w.data.toList) := by
    unfold bytesOf intsU
    rw [hj]
    unfold joinS
    rw [List.map_append, List.flatMap_map]
  rw [e]
  simp
theorem ref_print_go (l : List S24) (hg : ∀ x ∈ l, rngX x ∧ x.f7.length ≤ 1099511627776) (hsz : (textOf l).size ≤ 1099511627776) (hlen : l.length ≤ 4611686018427387904) : ∀ (n i : Nat), l.length - i = n → i ≤ l.length → (∀ x ∈ l.take i, okX x = true) →
    ∃ k, squintref18_Print.l0 k l (bytesOf (textOf (l.take i))) (i : Int) = some (printOf l)
  | 0, i, hn, hi, hok => by
    obtain rfl : i = l.length := by omega
    rw [List.take_length] at hok ⊢
    refine ⟨1, ?_⟩
    unfold squintref18_Print.l0
    rw [if_neg (by omega), str_bytes]
    unfold printOf
    rw [if_pos (List.all_eq_true.2 hok)]
  | n + 1, i, hn, hi, hok => by
    have hlt : i < l.length := by omega
    have hx : l[i]? = some l[i] := List.getElem?_eq_getElem hlt
    obtain ⟨x, hxx⟩ : ∃ x, x = l[i] := ⟨_, rfl⟩
    rw [← hxx] at hx
    have hrd : rd_T24 l (i : Int) = x := by rw [hxx]; simp [rd_T24, hlt]
    obtain ⟨g1, g2⟩ := hg x (List.mem_of_getElem? hx)
    by_cases ho : okX x = true
    · have htk : l.take (i + 1) = l.take i ++ [x] := by rw [List.take_add_one, hx]; rfl
      obtain ⟨k, hk⟩ := ref_print_go l hg hsz hlen n (i + 1) (by omega) (by omega) (fun y hy => by
        rw [htk] at hy
        rcases List.mem_append.1 hy with hy | hy
        · exact hok y hy
        · rw [List.mem_singleton] at hy
          subst hy
          exact ho)
      obtain ⟨w, ws, hws⟩ := words_cons x
      have hts : textOf (l.take (i + 1)) = textOf (l.take i) ++ lineB (wordsX x) := by rw [htk]; exact textOf_snoc _ _
      have hle := textOf_size (l.take (i + 1)) (l.drop (i + 1))
      rw [List.take_append_drop, hts, size_append, lineB_size] at hle
      have hwl := words_len (wordsX x)
      rw [lineB_size] at hwl
      rw [hws] at hle hwl
      refine ⟨k + 1 + ws.length + 1 + 1, ?_⟩
      unfold squintref18_Print.l0
      rw [if_pos (by omega), if_pos (by omega), hrd]
      unfold squintref18_Check.f
      simp only [Option.bind_some]
      rw [checkOf_ok, if_pos ho, if_pos rfl]
      unfold squintref18_words.f
      rw [if_pos ⟨ho, (rngQ_iff _).2 g1, g2⟩]
      simp only [Option.bind_some]
      rw [hws, words_run0 l i w ws k _ (by simp only [List.length_cons] at hwl; omega) (by rw [bytesOf_length]; omega) (by omega) (by omega)]
      have e : bytesOf (textOf (l.take i)) ++ bytesOf (joinB (w :: ws)) ++ [10] = bytesOf (textOf (l.take (i + 1))) := by
        rw [hts, bytesOf_app, hws]
        unfold lineB
        rw [bytesOf_app, List.append_assoc]
        rfl
      rw [e]
      exact hk
    · refine ⟨1, ?_⟩
      unfold squintref18_Print.l0
      rw [if_pos (by omega), if_pos (by omega), hrd]
      unfold squintref18_Check.f
      simp only [Option.bind_some]
      rw [checkOf_ok, if_neg ho, if_neg (by decide), print_bad l i x hx (by simpa using ho)]
theorem ref_print (l : List S24) (hg : ∀ x ∈ l, rngX x ∧ x.f7.length ≤ 1099511627776) (hsz : (textOf l).size ≤ 1099511627776) (hlen : l.length ≤ 4611686018427387904) : ∃ k, squintref18_Print.f k l = some (printOf l) :=
  ref_print_go l hg hsz hlen l.length 0 rfl (Nat.zero_le _) (by simp)
end Go.Proofs.YtiapfhlipoomaaaDoor.Given
end
section
namespace Go.Proofs.YtiapfhlipoomaaaDoor.Given
open Go.RowKit Go.Proofs.YtiapfhlipoomaaaDoorW.PrintWords Go.Proofs.YtiapfhlipoomaaaDoorW.PrintLast Go.Proofs.YtiapfhlipoomaaaDoorW.PrintMore Go.Proofs.YtiapfhlipoomaaaDoor.Print
set_option linter.unusedVariables false
set_option linter.unusedSimpArgs false
abbrev Any : Nat → Prop := fun _ => True
def KT (t : TypeId) (w w' : World) : Prop := ∀ (k : Nat) (cs : Array Value), w.heap[k]? = some (.cells cs t (0, 0)) → w'.heap[k]? = some (.cells cs t (0, 0))
theorem KT.refl (t : TypeId) (w : World) : KT t w w := fun _ _ h => h
theorem KT.trans {t : TypeId} {w w1 w2 : World} (h : KT t w w1) (k : KT t w1 w2) : KT t w w2 := fun a cs ha => k a cs (h a cs ha)
theorem KT.below {t : TypeId} {w w1 : World} (h : Below w.heap.size w w1) : KT t w w1 := fun k cs hk => blk_below hk h
theorem KT.grown {t e : TypeId} {w w1 : World} {v : Value} (hg : w.grownBy w1 v.ownBlock) (hty : ∀ k, v.ownBlock = some k → ∃ cells, w.heap[k]? = some (.cells cells e (0, 0))) (hne : t ≠ e) : KT t w w1 := fun k cs hk =>
  blk_grown hk hg (fun he => by
    obtain ⟨cells, hc⟩ := hty k he.symm
    rw [hk] at hc
    injection hc with hc
    injection hc with _ h2
    exact hne h2)
theorem KT.set {t e : TypeId} {w : World} {g : Nat} {cs0 : Array Value} (hb : w.heap[g]? = some (.cells cs0 e (0, 0))) (hne : t ≠ e) (j : Nat) (u : Value) : KT t w (w.setCell ⟨g, j, none⟩ u) := fun k cs hk =>
  (Below.heap_setCell w ⟨g, j, none⟩ u k (fun he => by
    have he : k = g := he
    subst he
    rw [hk] at hb
    injection hb with hb
    injection hb with _ h2
    exact hne h2)).trans hk
theorem R_kt {α : Type} {d : Kd α} {e base : Nat} {ok : Nat → Prop} {w w1 : World} {v : Value} {xs : List α} (hE : d.E = []) (h : d.R e w base ok v xs) (hk : KT e w w1) : d.R e w1 base ok v xs := by
  have h1 := Kd.R_step (w1 := w1) (Kd.R_tight hE h) (fun k ho _ => by
    obtain ⟨cells, hc⟩ := Kd.R_typed h k ho.symm
    rw [hc, hk k cells hc])
  exact Kd.R_mono h1 (fun k hk => h.1 k hk.symm)
def RowAt (w : World) (base : Nat) (x : S24) (r0 r1 : Option (List Value)) : Prop :=
  ∃ b c, r0 = some (evC x (.slice (some ⟨b, 0, none⟩) x.f7.length c)).toList ∧ r1 = some [.slice (some ⟨b, 0, none⟩) (x.f7.length + 1) c] ∧ Kd.R (Kd.int .i64) 3 w base Any (.slice (some ⟨b, 0, none⟩) (x.f7.length + 1) c) (x.f7 ++ [-77])
theorem RowAt.kt {w w1 : World} {base : Nat} {x : S24} {r0 r1 : Option (List Value)} (h : RowAt w base x r0 r1) (hk : KT 3 w w1) : RowAt w1 base x r0 r1 := by
  obtain ⟨b, c, h0, h1, h2⟩ := h
  exact ⟨b, c, h0, h1, R_kt rfl h2 hk⟩
def Lent (w : World) (base : Nat) (l : List S24) (extra : List (List Value)) (v0 v1 : Value) : Prop :=
  ∃ rows0 rows1 : List (List Value), rows0.length = l.length ∧ rows1.length = l.length ∧ (Kd.raw 8).R 24 w base Any v0 (rows0 ++ extra) ∧ (Kd.raw 1).R 22 w base Any v1 rows1 ∧ ∀ (j : Nat) (x : S24), l[j]? = some x → RowAt w base x rows0[j]? rows1[j]?
theorem lent_nil (w : World) (base : Nat) : Lent w base [] [] (.slice none 0 0) (.slice none 0 0) := ⟨[], [], rfl, rfl, Kd.R_nil _ _ _ _ _, Kd.R_nil _ _ _ _ _, fun j x h => by simp at h⟩
theorem Lent.below {w w1 : World} {base : Nat} {l : List S24} {extra : List (List Value)} {v0 v1 : Value} (h : Lent w base l extra v0 v1) (hb : Below w.heap.size w w1) : Lent w1 base l extra v0 v1 := by
  obtain ⟨rows0, rows1, l0, l1, h0, h1, h2⟩ := h
  exact ⟨rows0, rows1, l0, l1, Kd.R_below h0 hb, Kd.R_below h1 hb, fun j x hx => (h2 j x hx).kt (KT.below hb)⟩
theorem evC_raw (x : S24) (A : Option Addr) (n c : Nat) (w : World) (base : Nat) (ok : Nat → Prop) : (Kd.raw 8).M w base ok (evC x (.slice A n c)).toList (evC x (.slice A n c)).toList := by
  refine ⟨rfl, rfl, fun u hu => ?_⟩
  simp only [List.mem_cons, List.not_mem_nil, or_false] at hu
  rcases hu with rfl | rfl | rfl | rfl | rfl | rfl | rfl | rfl <;> rfl
theorem one_raw (A : Option Addr) (n c : Nat) (w : World) (base : Nat) (ok : Nat → Prop) : (Kd.raw 1).M w base ok [.slice A n c] [.slice A n c] := by
  refine ⟨rfl, rfl, fun u hu => ?_⟩
  rw [List.mem_singleton] at hu
  subst hu
  rfl
theorem rowAt_old {w : World} {base : Nat} {l : List S24} {rows0 rows1 : List (List Value)} {y : S24} {b c : Nat} (h0 : rows0.length = l.length) (h1 : rows1.length = l.length) (h : ∀ (j : Nat) (x : S24), l[j]? = some x → RowAt w base x rows0[j]? rows1[j]?)
    (hy : Kd.R (Kd.int .i64) 3 w base Any (.slice (some ⟨b, 0, none⟩) (y.f7.length + 1) c) (y.f7 ++ [-77])) :
    ∀ (j : Nat) (x : S24), (l ++ [y])[j]? = some x → RowAt w base x (rows0 ++ [(evC y (.slice (some ⟨b, 0, none⟩) y.f7.length c)).toList])[j]? (rows1 ++ [[.slice (some ⟨b, 0, none⟩) (y.f7.length + 1) c]])[j]? := by
  intro j x hj
  by_cases hl : j < l.length
  · rw [List.getElem?_append_left hl] at hj
    rw [List.getElem?_append_left (by omega), List.getElem?_append_left (by omega)]
    exact h j x hj
  · rw [List.getElem?_append_right (by omega)] at hj
    rw [List.getElem?_append_right (by omega), List.getElem?_append_right (by omega), h0, h1]
    have : j - l.length = 0 := by
      have := (List.getElem?_eq_some_iff.1 hj).1
      simp at this
      omega
    rw [this] at hj ⊢
    simp only [List.getElem?_cons_zero, Option.some.injEq] at hj ⊢
    subst hj
    exact ⟨b, c, rfl, rfl, hy⟩
theorem lent_cell0 {w : World} {base g cap : Nat} {rows : List (List Value)} {n : Nat} (h : (Kd.raw 8).R 24 w base Any (.slice (some ⟨g, 0, none⟩) n cap) rows) {i : Nat} {r : List Value} (hr : rows[i]? = some r) : ∀ j u, r[j]? = some u → w.cell? ⟨g, i * 8 + j, none⟩ = some u := by
  have hn := (Kd.R_reads' h).1
  have hi := (List.getElem?_eq_some_iff.1 hr).1
  obtain ⟨c, hcl, hM, hcc, _⟩ := Kd.R_elem h [] (i : Int) (by omega) (by omega)
  rw [Int.toNat_natCast] at hM hcc
  have e : rows.getD i [] = r := by rw [List.getD_eq_getElem?_getD, hr]; rfl
  rw [e] at hM
  intro j u hu
  obtain ⟨rfl, _⟩ := hM
  exact hcc j u hu
theorem lent_cell1 {w : World} {base g cap : Nat} {rows : List (List Value)} {n : Nat} (h : (Kd.raw 1).R 22 w base Any (.slice (some ⟨g, 0, none⟩) n cap) rows) {i : Nat} {u : Value} (hr : rows[i]? = some [u]) : w.cell? ⟨g, i, none⟩ = some u := by
  have hn := (Kd.R_reads' h).1
  have hi := (List.getElem?_eq_some_iff.1 hr).1
  obtain ⟨c, hcl, hM, hcc, _⟩ := Kd.R_elem h [] (i : Int) (by omega) (by omega)
  rw [Int.toNat_natCast] at hM hcc
  have e : rows.getD i [] = [u] := by rw [List.getD_eq_getElem?_getD, hr]; rfl
  rw [e] at hM
  obtain ⟨rfl, _⟩ := hM
  have := hcc 0 u rfl
  have e2 : (Kd.raw 1).sz = 1 := rfl
  rwa [e2, Nat.mul_one] at this
theorem int_take {w : World} {base b c n : Nat} {xs ys : List Int} (h : Kd.R (Kd.int .i64) 3 w base Any (.slice (some ⟨b, 0, none⟩) n c) (xs ++ ys)) : Kd.C (Kd.int .i64) w (some ⟨b, 0, none⟩) xs.length xs ∧ xs.length ≤ c := by
  obtain ⟨hn, hc, hC⟩ := Kd.R_reads' h
  rw [List.length_append] at hn
  have hr := Kd.reads_of_C (d := (0 : Int)) hC
  have e : (xs ++ ys).length = xs.length + ys.length := List.length_append
  refine ⟨Kd.C_of_reads (enc := Value.int .i64) (d := 0) (h1 := fun _ => rfl) ⟨rfl, by have := hr.2.1; omega, fun hp => ?_⟩, by omega⟩
  obtain ⟨ad, he, hcell⟩ := hr.2.2 (by omega)
  refine ⟨ad, he, fun j hj => ?_⟩
  rw [hcell j (by omega)]
  rw [List.getD_eq_getElem?_getD, List.getD_eq_getElem?_getD, List.getElem?_append_left hj]
theorem lent_C {w : World} {base g cap : Nat} {l : List S24} {extra : List (List Value)} {v1 : Value} {n : Nat} (h : Lent w base l extra (.slice (some ⟨g, 0, none⟩) n cap) v1) : Kd.C k24 w (some ⟨g, 0, none⟩) l.length l := by
  obtain ⟨rows0, rows1, l0, l1, h0, h1, h2⟩ := h
  have hlm := (Kd.R_reads' h0).2.2.2.1
  have hn := (Kd.R_reads' h0).1
  refine ⟨rfl, ?_, fun _ => ⟨_, rfl, fun j x hj => ?_⟩⟩
  · rw [List.length_append, l0] at hlm
    omega
  · obtain ⟨b, c, r0, r1, hR⟩ := h2 j x hj
    obtain ⟨hC, hc⟩ := int_take hR
    refine ⟨(evC x (.slice (some ⟨b, 0, none⟩) x.f7.length c)).toList, rfl, k24_mk w x hc hC, fun i u hu => ?_⟩
    have hi : (rows0 ++ extra)[j]? = some (evC x (.slice (some ⟨b, 0, none⟩) x.f7.length c)).toList := by
      rw [List.getElem?_append_left (by have := (List.getElem?_eq_some_iff.1 hj).1; omega)]
      exact r0
    have := lent_cell0 h0 hi i u hu
    have e : (⟨g, 0, none⟩ : Addr).add (j * k24.sz + i) = ⟨g, j * 8 + i, none⟩ := by
      have e2 : k24.sz = 8 := rfl
      rw [e2]
      have key : ∀ m : Nat, (⟨g, 0, none⟩ : Addr).add m = ⟨g, m, none⟩ := by
        intro m
        simp [Addr.add]
        exact Eq.symm
      exact key _
    rw [e]
    exact this
end Go.Proofs.YtiapfhlipoomaaaDoor.Given
end
section
namespace Go.Proofs.YtiapfhlipoomaaaDoor.Given
open Go.RowKit Go.Proofs.YtiapfhlipoomaaaDoorW.PrintWords Go.Proofs.YtiapfhlipoomaaaDoorW.PrintLast Go.Proofs.YtiapfhlipoomaaaDoorW.PrintMore Go.Proofs.YtiapfhlipoomaaaDoor.Print
set_option linter.unusedVariables false
set_option linter.unusedSimpArgs false
theorem last_form {w : World} {base : Nat} {v : Value} {xs : List Int} (h : Kd.R (Kd.int .i64) 3 w base Any v (xs ++ [-77])) : ∃ b c, v = .slice (some ⟨b, 0, none⟩) (xs.length + 1) c ∧ xs.length + 1 ≤ c ∧ Kd.R (Kd.int .i64) 3 w base Any (.slice (some ⟨b, 0, none⟩) (xs.length + 1) c) (xs ++ [-77]) := by
  obtain ⟨b, c, rfl, _⟩ := Kd.R_form h (by simp)
  have e : (xs ++ [-77]).length = xs.length + 1 := by simp
  obtain ⟨_, hc, _⟩ := Kd.R_reads' h
  rw [e] at h hc
  rw [e]
  exact ⟨b, c, rfl, hc, h⟩
theorem KT.setRow {t e : TypeId} {w : World} {g : Nat} {cs0 cs' : Array Value} (hb : w.heap[g]? = some (.cells cs0 e (0, 0))) (hne : t ≠ e) : KT t w (w.setRow g cs') := fun k cs hk =>
  (setRow_other _ _ _ _ (fun he => by
    subst he
    rw [hk] at hb
    injection hb with hb
    injection hb with _ h2
    exact hne h2)).trans hk
abbrev zrow : List Value := (evC ⟨-9, 0, 0, 0, 0, 0, 0, []⟩ (.slice none 0 0)).toList
set_option maxRecDepth 100000 in
set_option maxHeartbeats 4000000 in
theorem lend_any (A : Option Addr) (cp : Nat) (l : List S24) (w : World) (hr : Kd.C k24 w A l.length l) (hlen : l.length ≤ 1000000000) (hln : ∀ x ∈ l, x.f7.length ≤ 1000000000) :
    Calls Tryd.prog 13 #[.slice A l.length cp] w fun e w' => ∃ v0 v1, e = .returned (.agg #[v0, v1]) ∧ Lent w' w.heap.size l [zrow] v0 v1 ∧ Below w.heap.size w w' := by
  have hu24 := Tryd.underlying24
  have hu33 := Tryd.underlying33
  have HR := Aside0.mk hr
  have HLN := Aside0.mk hln
  have HB := Aside0.mk (Below.refl w.heap.size w)
  clear hr hln
  go_enter Tryd.func13, Tryd.ntmps13
  go_wp2_with (first
    | ((with_reducible refine gate_dst (N := 2) rfl ?_); refine box_event ?hg (N := 2) ?hd (cs := #[.slice none 0 0, .slice none 0 0]) (t := 33) ?hr ?_; (case hd => rfl); (case hg => rfl); (case hr => first | (go_simp; done) | (go_simp; rfl)); intro g2 hg w2 hbox hb; have n0_ := Aside0.mk (below_step HB.out hb); clear HB; have HB := n0_; clear n0_; have BK2 := Aside0.mk hbox; have HG2 := Aside0.mk hg; clear hbox hb hg)
    | ((with_reducible refine gate_dst (N := 3) rfl ?_); refine box_event ?hg (N := 3) ?hd (cs := #[.slice none 0 0, .slice none 0 0]) (t := 33) ?hr ?_; (case hd => rfl); (case hg => rfl); (case hr => first | (go_simp; done) | (go_simp; rfl)); intro g3 hg w3 hbox hb; have NB := Aside0.mk (show g2 ≠ g3 by have := blk_lt BK2.out; omega); have GE3 := Aside0.mk (show w.heap.size ≤ g3 by rw [hg]; exact HB.out.size); have GE2 := Aside0.mk (show w.heap.size ≤ g2 by rw [HG2.out]; exact Nat.le_refl _); have n0_ := Aside0.mk (below_step HB.out hb); clear HB; have HB := n0_; clear n0_; have n0_ := Aside0.mk (blk_below BK2.out hb); clear BK2; have BK2 := n0_; have BK3 := Aside0.mk hbox; clear n0_ hbox hb hg)
    | (refine wpList_store_row rfl 33 (.tmp 3) (.tmp 7) rfl g3 #[.slice none 0 0, .slice none 0 0] rfl rfl 33 _ BK3.out (by kernel_rfl) rfl (by kernel_rfl) ?_; have n0_ : Aside0 ((w3.setRow g3 #[.slice none 0 0, .slice none 0 0]).heap[g3]? = some (.cells #[.slice none 0 0, .slice none 0 0] 33 (0, 0))) := ⟨setRow_heap _ _ _ _ _ _ BK3.out⟩; have n1_ := Aside0.mk (below_setRow HB.out GE3.out #[.slice none 0 0, .slice none 0 0]); have n2_ : Aside0 ((w3.setRow g3 #[.slice none 0 0, .slice none 0 0]).heap[g2]? = some (.cells #[.slice none 0 0, .slice none 0 0] 33 (0, 0))) := ⟨(setRow_other _ _ _ _ NB.out).trans BK2.out⟩; generalize w3.setRow g3 #[.slice none 0 0, .slice none 0 0] = w4 at n0_ n1_ n2_ ⊢; clear BK2 BK3 HB; have BK2 := n2_; have BK3 := n0_; have HB := n1_; clear n0_ n1_ n2_))
  go_loopw [4] (fun v4 wr => ∃ (j : Nat) (v0 v1 : Value), v4 = .int .i64 j ∧ j ≤ l.length ∧ Aside0 (Lent wr w.heap.size (l.take j) [] v0 v1) ∧ Aside0 (wr.heap[g2]? = some (.cells #[.slice none 0 0, .slice none 0 0] 33 (0, 0))) ∧ Aside0 (wr.heap[g3]? = some (.cells #[v0, v1] 33 (0, 0))) ∧ Aside0 (Below w.heap.size w wr)) (fun v4 _ => l.length - (intOf v4).toNat)
  case atStart => exact ⟨0, .slice none 0 0, .slice none 0 0, rfl, by omega, ⟨lent_nil _ _⟩, BK2, BK3, HB⟩
  case round =>
  clear BK2 BK3 HB
  obtain ⟨j, v0, v1, rfl, hj, HLT, BK2, BK3, HB⟩ := hrel
  obtain ⟨wo, rfl⟩ : ∃ wo : World, wo = wr := ⟨_, rfl⟩
  by_cases hlt : j < l.length
  · obtain ⟨x, hx⟩ : ∃ x, l[j]? = some x := ⟨_, List.getElem?_eq_getElem hlt⟩
    obtain ⟨ad, A7, c7, rfl, h7, hC7, hrow⟩ := ev_at HR.out j x hx
    have HC7 := Aside0.mk hC7
    have hxl := HLN.out x (List.mem_of_getElem? hx)
    have HTK : Aside0 (l.take (j + 1) = l.take j ++ [x]) := ⟨by rw [List.take_add_one, hx]; rfl⟩
    have q0 : wo.cell? (ad.add (j * 8)) = some (.int .i64 x.f0) := pw_cell_below HB.out (hrow 0 _ rfl)
    have q1 : wo.cell? ⟨(ad.add (j * 8)).block, (ad.add (j * 8)).off + 1, none⟩ = some (.int .i64 x.f1) := by rw [← add_field _ _ 1 (by omega)]; exact pw_cell_below HB.out (hrow 1 _ rfl)
    have q2 : wo.cell? ⟨(ad.add (j * 8)).block, (ad.add (j * 8)).off + 2, none⟩ = some (.int .i64 x.f2) := by rw [← add_field _ _ 2 (by omega)]; exact pw_cell_below HB.out (hrow 2 _ rfl)
    have q3 : wo.cell? ⟨(ad.add (j * 8)).block, (ad.add (j * 8)).off + 3, none⟩ = some (.int .i64 x.f3) := by rw [← add_field _ _ 3 (by omega)]; exact pw_cell_below HB.out (hrow 3 _ rfl)
    have q4 : wo.cell? ⟨(ad.add (j * 8)).block, (ad.add (j * 8)).off + 4, none⟩ = some (.int .i64 x.f4) := by rw [← add_field _ _ 4 (by omega)]; exact pw_cell_below HB.out (hrow 4 _ rfl)
    have q5 : wo.cell? ⟨(ad.add (j * 8)).block, (ad.add (j * 8)).off + 5, none⟩ = some (.int .i64 x.f5) := by rw [← add_field _ _ 5 (by omega)]; exact pw_cell_below HB.out (hrow 5 _ rfl)
    have q6 : wo.cell? ⟨(ad.add (j * 8)).block, (ad.add (j * 8)).off + 6, none⟩ = some (.int .i64 x.f6) := by rw [← add_field _ _ 6 (by omega)]; exact pw_cell_below HB.out (hrow 6 _ rfl)
    have q7 : wo.cell? ⟨(ad.add (j * 8)).block, (ad.add (j * 8)).off + 7, none⟩ = some (.slice A7 x.f7.length c7) := by rw [← add_field _ _ 7 (by omega)]; exact pw_cell_below HB.out (hrow 7 _ rfl)
    clear hrow h7 hC7 hx
    have HTA : Aside0 ((([] : List Int).length + x.f7.length) * 8 ≤ 140737488355328) := ⟨by rw [List.length_nil]; omega⟩
    have HTB : Aside0 ((x.f7.length + 1) * 8 ≤ 140737488355328) := ⟨by omega⟩
    go_upto_region 10 with (first
      | ((with_reducible refine gate_dst (N := 5) rfl ?_); refine box_event ?hg (N := 5) ?hd (cs := #[.int .i64 0, .int .i64 0, .int .i64 0, .int .i64 0, .int .i64 0, .int .i64 0, .int .i64 0, .slice none 0 0]) (t := 24) ?hr ?_; (case hd => rfl); (case hg => rfl); (case hr => first | (go_simp; done) | (go_simp; rfl)); intro g5 hg w5 hbox hb; have BX := Aside0.mk hbox; have HE := Aside0.mk hb; have G5 := Aside0.mk (show wo.heap.size ≤ g5 by rw [hg]; exact Nat.le_refl _); clear hbox hb hg)
      | (refine wpList_store_row rfl 24 (.tmp 5) (.tmp 17) rfl g5 (evC x (.slice A7 x.f7.length c7)) rfl rfl 24 _ BX.out (by kernel_rfl) rfl (by kernel_rfl) ?_; have n0_ : Aside0 ((w5.setRow g5 (evC x (.slice A7 x.f7.length c7))).heap[g5]? = some (.cells (evC x (.slice A7 x.f7.length c7)) 24 (0, 0))) := ⟨setRow_heap _ _ _ _ _ _ BX.out⟩; have n1_ := Aside0.mk (below_setRow HE.out G5.out (evC x (.slice A7 x.f7.length c7))); generalize w5.setRow g5 (evC x (.slice A7 x.f7.length c7)) = w6 at n0_ n1_ ⊢; clear BX HE; have BX := n0_; have HE := n1_; clear n0_ n1_)
      | ((with_reducible refine gate_dst (N := 18) rfl ?_); refine Kd.R_lit (Kd.int .i64) (w0 := wo) wo.heap.size 3 ?hg (N := 18) ?hd (xs := ([] : List Int)) (inner := []) (ok := Any) (okp := Any) ?hr ?hp (fun _ hk => hk) trivial ?hb ?hs (by simp) ?_; (case hd => rfl); (case hg => rfl); (case hr => first | (go_simp; done) | (go_simp; rfl)); (case hp => exact (Reps.none _ _)); (case hb => exact HE.out); (case hs => exact HE.out.size); intro v7 w7 ho hb hg_ hat_; have HO := Aside0.mk ho; have n0_ := Aside0.mk (blk_grown BX.out hg_ (by simp)); clear HE BX; have HE := Aside0.mk hb; have BX := n0_; clear n0_ ho hb hg_ hat_; have x7 : w7.cell? ⟨g5, 7, none⟩ = some (.slice A7 x.f7.length c7) := (blk_cell BX.out 7).trans rfl)
      | ((with_reducible refine gate_builtin (b := .append) (xs := #[.tmp 19, .tmp 21]) rfl ?_); at_builtin; refine Kd.R_append_rows (Kd.int .i64) (w0 := wo) wo.heap.size rfl (.tmp 19) (.tmp 21) 22 3 (.int .i64 0) 8 rfl Tryd.underlying22 info3 rfl (by decide) (by omega) v7 [] x.f7 _ _ _ Any (fun _ => False) rfl rfl ?aO ?aR (fun _ _ h => h) (fun _ h => h.elim) (fun _ _ => trivial) ?aB ?aS ?aL ?_; (case aR => exact Kd.C_below HC7.out (HB.out.trans (HE.out.mono HB.out.size))); (case aB => exact HE.out); (case aO => exact HO.out); (case aS => exact HE.out.size); (case aL => exact HTA.out); intro v8 w8 ho hb hg_ hat_; have n0_ := Aside0.mk (blk_grown BX.out hg_ (Kd.R_ne HO.out BX.out (by decide))); clear HE BX HO x7; have HE := Aside0.mk hb; have BX := n0_; have HO : Aside0 (Kd.R (Kd.int .i64) 3 w8 wo.heap.size Any v8 x.f7) := ⟨ho⟩; clear n0_ ho hb hg_ hat_)
      | ((with_reducible refine gate_builtin (b := .append) (xs := #[.tmp 23, .tmp 24]) rfl ?_); at_builtin; refine Kd.R_append (Kd.int .i64) (w0 := wo) wo.heap.size rfl (.tmp 23) (.tmp 24) 22 3 (.int .i64 0) 8 rfl Tryd.underlying22 info3 rfl (by decide) (by omega) v8 x.f7 (-77) [.int .i64 (-77)] Any (fun _ => False) rfl rfl ?aP (fun _ hk => hk.elim) (fun _ _ => trivial) ?aO ?aB ?aS ?aL ?_; (case aP => exact rfl); (case aB => exact HE.out); (case aO => exact HO.out); (case aS => exact HE.out.size); (case aL => exact HTB.out); intro v9 w9 ho hb hg_ hat_; have n0_ := Aside0.mk (blk_grown BX.out hg_ (Kd.R_ne HO.out BX.out (by decide))); obtain ⟨b9, c9, rfl, hlc, HL9⟩ := last_form ho; clear HE BX HO; have HE := Aside0.mk hb; have BX := n0_; have HL := Aside0.mk HL9; clear n0_ ho hb hg_ hat_ HL9; have x7 : w9.cell? ⟨g5, 7, none⟩ = some (.slice A7 x.f7.length c7) := (blk_cell BX.out 7).trans rfl; have z7 : w9.frozen? ⟨g5, 7, none⟩ = false := blk_frozen BX.out 7))
    have n0_ : Aside0 ((w9.setCell ⟨g5, 7, none⟩ (.slice (some ⟨b9, 0, none⟩) x.f7.length c9)).heap[g5]? = some (.cells (evC x (.slice (some ⟨b9, 0, none⟩) x.f7.length c9)) 24 (0, 0))) := ⟨(blk_set BX.out 7 _).trans rfl⟩
    have n1_ : Aside0 (Below wo.heap.size wo (w9.setCell ⟨g5, 7, none⟩ (.slice (some ⟨b9, 0, none⟩) x.f7.length c9))) := ⟨below_set HE.out G5.out⟩
    have n2_ := Aside0.mk (Kd.R_set HL.out BX.out (by decide) 7 (.slice (some ⟨b9, 0, none⟩) x.f7.length c9))
    generalize w9.setCell ⟨g5, 7, none⟩ (.slice (some ⟨b9, 0, none⟩) x.f7.length c9) = wa at n0_ n1_ n2_ ⊢
    clear BX HE HL x7 z7
    have BX := n0_
    have HE := n1_
    have HL := n2_
    clear n0_ n1_ n2_
    obtain ⟨rows0, rows1, lr0, lr1, hv0, hv1, hrows⟩ := HLT.out.below HE.out
    rw [List.append_nil] at hv0
    have HV0 := Aside0.mk hv0
    have HV1 := Aside0.mk hv1
    have HRW := Aside0.mk hrows
    have HBA : Aside0 (Below w.heap.size w wa) := ⟨HB.out.trans (HE.out.mono HB.out.size)⟩
    have n0_ := Aside0.mk (blk_below BK3.out HE.out)
    have n1_ := Aside0.mk (blk_below BK2.out HE.out)
    clear BK3 BK2 hv0 hv1 hrows HLT
    have BK3 := n0_
    have BK2 := n1_
    clear n0_ n1_
    have hl2 : (l.take j).length = j := by rw [List.length_take]; omega
    have HT1 : Aside0 ((rows1.length + 1) * 24 ≤ 140737488355328) := ⟨by omega⟩
    have HT0 : Aside0 ((rows0.length + 1) * 80 ≤ 140737488355328) := ⟨by omega⟩
    have N53 := Aside0.mk (show g5 ≠ g3 by have := blk_ne BX.out BK3.out (by decide); exact this)
    have LR0 := Aside0.mk lr0
    have LR1 := Aside0.mk lr1
    clear lr0 lr1 hl2
    have z0 : wa.cell? ⟨g3, 0, none⟩ = some v0 := (blk_cell BK3.out 0).trans rfl
    have z1 : wa.cell? ⟨g3, 1, none⟩ = some v1 := (blk_cell BK3.out 1).trans rfl
    go_upto_region 11 with (first
      | ((with_reducible refine gate_builtin (b := .append) (xs := #[.tmp 33, .tmp 35]) rfl ?_); at_builtin; refine Kd.R_append (Kd.raw 1) (w0 := w) w.heap.size rfl (.tmp 33) (.tmp 35) 31 22 (.slice none 0 0) 24 rfl Tryd.underlying31 info22 rfl (by decide) (by omega) v1 rows1 [.slice (some ⟨b9, 0, none⟩) (x.f7.length + 1) c9] [.slice (some ⟨b9, 0, none⟩) (x.f7.length + 1) c9] Any (fun _ => False) rfl rfl ?aP (fun _ hk => hk.elim) (fun _ _ => trivial) ?aO ?aB ?aS ?aL ?_; (case aP => exact one_raw _ _ _ _ _ _); (case aB => exact HBA.out); (case aO => exact HV1.out); (case aS => exact HBA.out.size); (case aL => exact HT1.out); intro u1_ w11 ho hb hg_ hat_; obtain ⟨A1u, n1u, c1u, rfl⟩ : ∃ A_ n_ c_, u1_ = .slice A_ n_ c_ := (by obtain ⟨A_, c_, e_⟩ := Kd.R_slice ho; exact ⟨A_, _, c_, e_⟩); have HU1 := Aside0.mk ho; have n0_ := Aside0.mk (Kd.R_over' HV0.out (Kd.R_typed HV1.out) (by decide) hg_); have K3 := Aside0.mk (KT.grown (t := 3) hg_ (Kd.R_typed HV1.out) (by decide)); have n1_ := Aside0.mk (blk_grown BK3.out hg_ (Kd.R_ne HV1.out BK3.out (by decide))); have n2_ := Aside0.mk (blk_grown BK2.out hg_ (Kd.R_ne HV1.out BK2.out (by decide))); have n3_ := Aside0.mk (blk_grown BX.out hg_ (Kd.R_ne HV1.out BX.out (by decide))); clear HV0 HV1 BK3 BK2 BX HBA z0 z1; have HV0 := n0_; have BK3 := n1_; have BK2 := n2_; have BX := n3_; have HBA := Aside0.mk hb; clear n0_ n1_ n2_ n3_ ho hb hg_ hat_; have z1 : w11.cell? ⟨g3, 1, none⟩ = some v1 := (blk_cell BK3.out 1).trans rfl; have f1 := blk_frozen BK3.out 1))
    have n0_ : Aside0 ((w11.setCell ⟨g3, 1, none⟩ (.slice A1u n1u c1u)).heap[g3]? = some (.cells #[v0, (.slice A1u n1u c1u)] 33 (0, 0))) := ⟨(blk_set BK3.out 1 _).trans rfl⟩
    have n1_ : Aside0 (Below w.heap.size w (w11.setCell ⟨g3, 1, none⟩ (.slice A1u n1u c1u))) := ⟨below_set HBA.out GE3.out⟩
    have n2_ := Aside0.mk (Kd.R_set HU1.out BK3.out (by decide) 1 (.slice A1u n1u c1u))
    have n3_ := Aside0.mk (Kd.R_set HV0.out BK3.out (by decide) 1 (.slice A1u n1u c1u))
    have n4_ := Aside0.mk (K3.out.trans (KT.set BK3.out (by decide) 1 (.slice A1u n1u c1u)))
    have n5_ : Aside0 ((w11.setCell ⟨g3, 1, none⟩ (.slice A1u n1u c1u)).heap[g2]? = _) := ⟨blk_far BK2.out NB.out (.slice A1u n1u c1u)⟩
    have n6_ : Aside0 ((w11.setCell ⟨g3, 1, none⟩ (.slice A1u n1u c1u)).heap[g5]? = _) := ⟨blk_far BX.out N53.out (.slice A1u n1u c1u)⟩
    generalize w11.setCell ⟨g3, 1, none⟩ (.slice A1u n1u c1u) = wb at n0_ n1_ n2_ n3_ n4_ n5_ n6_ ⊢
    clear BK3 BK2 BX HBA HU1 HV0 K3 z1 f1
    have BK3 := n0_
    have HBA := n1_
    have HU1 := n2_
    have HV0 := n3_
    have K3 := n4_
    have BK2 := n5_
    have BX := n6_
    clear n0_ n1_ n2_ n3_ n4_ n5_ n6_
    have z0 : wb.cell? ⟨g3, 0, none⟩ = some v0 := (blk_cell BK3.out 0).trans rfl
    go_wp2_with (first
      | (refine wpList_load_row rfl 24 (.tmp 5) rfl g5 rfl 24 (evC x (.slice (some ⟨b9, 0, none⟩) x.f7.length c9)) (0, 0) _ BX.out Tryd.underlying24 rfl (by kernel_rfl) ?_)
      | ((with_reducible refine gate_builtin (b := .append) (xs := #[.tmp 39, .tmp 41]) rfl ?_); at_builtin; refine Kd.R_append (Kd.raw 8) (w0 := w) w.heap.size rfl (.tmp 39) (.tmp 41) 29 24 (.agg #[.int .i64 0, .int .i64 0, .int .i64 0, .int .i64 0, .int .i64 0, .int .i64 0, .int .i64 0, .slice none 0 0]) 80 rfl Tryd.underlying29 info24 rfl (by decide) (by omega) v0 rows0 (evC x (.slice (some ⟨b9, 0, none⟩) x.f7.length c9)).toList (evC x (.slice (some ⟨b9, 0, none⟩) x.f7.length c9)).toList Any (fun _ => False) rfl rfl ?aP (fun _ hk => hk.elim) (fun _ _ => trivial) ?aO ?aB ?aS ?aL ?_; (case aP => exact evC_raw _ _ _ _ _ _ _); (case aB => exact HBA.out); (case aO => exact HV0.out); (case aS => exact HBA.out.size); (case aL => exact HT0.out); intro u0_ w13 ho hb hg_ hat_; obtain ⟨A0u, n0u, c0u, rfl⟩ : ∃ A_ n_ c_, u0_ = .slice A_ n_ c_ := (by obtain ⟨A_, c_, e_⟩ := Kd.R_slice ho; exact ⟨A_, _, c_, e_⟩); have HU0 := Aside0.mk ho; have n0_ := Aside0.mk (Kd.R_over' HU1.out (Kd.R_typed HV0.out) (by decide) hg_); have K4 := Aside0.mk (KT.grown (t := 3) hg_ (Kd.R_typed HV0.out) (by decide)); have n1_ := Aside0.mk (blk_grown BK3.out hg_ (Kd.R_ne HV0.out BK3.out (by decide))); have n2_ := Aside0.mk (blk_grown BK2.out hg_ (Kd.R_ne HV0.out BK2.out (by decide))); clear HV0 HU1 BK3 BK2 HBA z0; have HU1 := n0_; have BK3 := n1_; have BK2 := n2_; have HBA := Aside0.mk hb; clear n0_ n1_ n2_ ho hb hg_ hat_; have z0 : w13.cell? ⟨g3, 0, none⟩ = some v0 := (blk_cell BK3.out 0).trans rfl; have f0 := blk_frozen BK3.out 0))
    go_roundw
    case rel =>
      refine ⟨j + 1, (.slice A0u n0u c0u), (.slice A1u n1u c1u), by go_num, by omega, ⟨?_⟩, ⟨blk_far BK2.out NB.out (.slice A0u n0u c0u)⟩, ⟨(blk_set BK3.out 0 _).trans rfl⟩, ⟨below_set HBA.out GE3.out⟩⟩
      have KK : KT 3 wa (w13.setCell ⟨g3, 0, none⟩ (.slice A0u n0u c0u)) := (K3.out.trans K4.out).trans (KT.set BK3.out (by decide) 0 (.slice A0u n0u c0u))
      rw [HTK.out]
      refine ⟨_, _, ?_, ?_, by rw [List.append_nil]; exact Kd.R_set HU0.out BK3.out (by decide) 0 (.slice A0u n0u c0u), Kd.R_set HU1.out BK3.out (by decide) 0 (.slice A0u n0u c0u), rowAt_old LR0.out LR1.out (fun i y hy => (HRW.out i y hy).kt KK) (R_kt rfl (Kd.R_lower HL.out HB.out.size) KK)⟩
      · rw [List.length_append, List.length_append, LR0.out]; rfl
      · rw [List.length_append, List.length_append, LR1.out]; rfl
    case measure => simp [intOf]; omega
  · obtain rfl : j = l.length := by omega
    rw [List.take_length] at HLT
    obtain ⟨rows0, rows1, lr0, lr1, hv0, hv1, hrows⟩ := HLT.out
    rw [List.append_nil] at hv0
    obtain ⟨A1v, n1v, c1v, rfl⟩ : ∃ A_ n_ c_, v1 = .slice A_ n_ c_ := by (obtain ⟨A_, c_, e_⟩ := Kd.R_slice hv1; exact ⟨A_, _, c_, e_⟩)
    have HV0 := Aside0.mk hv0
    have HU1 := Aside0.mk hv1
    have HRW := Aside0.mk hrows
    have HBA := HB
    have HT0 : Aside0 ((rows0.length + 1) * 80 ≤ 140737488355328) := ⟨by omega⟩
    have LR0 := Aside0.mk lr0
    have LR1 := Aside0.mk lr1
    clear hv0 hv1 hrows HLT lr0 lr1 HB
    have z0 : wo.cell? ⟨g3, 0, none⟩ = some v0 := (blk_cell BK3.out 0).trans rfl
    go_upto_region 13 with (first
      | ((with_reducible refine gate_builtin (b := .append) (xs := #[.tmp 45, .tmp 47]) rfl ?_); at_builtin; refine Kd.R_append (Kd.raw 8) (w0 := w) w.heap.size rfl (.tmp 45) (.tmp 47) 29 24 (.agg #[.int .i64 0, .int .i64 0, .int .i64 0, .int .i64 0, .int .i64 0, .int .i64 0, .int .i64 0, .slice none 0 0]) 80 rfl Tryd.underlying29 info24 rfl (by decide) (by omega) v0 rows0 zrow zrow Any (fun _ => False) rfl rfl ?aP (fun _ hk => hk.elim) (fun _ _ => trivial) ?aO ?aB ?aS ?aL ?_; (case aP => exact evC_raw ⟨-9, 0, 0, 0, 0, 0, 0, []⟩ none 0 0 _ _ _); (case aB => exact HBA.out); (case aO => exact HV0.out); (case aS => exact HBA.out.size); (case aL => exact HT0.out); intro u0_ w13 ho hb hg_ hat_; obtain ⟨A0u, n0u, c0u, rfl⟩ : ∃ A_ n_ c_, u0_ = .slice A_ n_ c_ := (by obtain ⟨A_, c_, e_⟩ := Kd.R_slice ho; exact ⟨A_, _, c_, e_⟩); have HU0 := Aside0.mk ho; have n0_ := Aside0.mk (Kd.R_over' HU1.out (Kd.R_typed HV0.out) (by decide) hg_); have K4 := Aside0.mk (KT.grown (t := 3) hg_ (Kd.R_typed HV0.out) (by decide)); have n1_ := Aside0.mk (blk_grown BK3.out hg_ (Kd.R_ne HV0.out BK3.out (by decide))); have n2_ := Aside0.mk (blk_grown BK2.out hg_ (Kd.R_ne HV0.out BK2.out (by decide))); clear HV0 HU1 BK3 BK2 HBA z0; have HU1 := n0_; have BK3 := n1_; have BK2 := n2_; have HBA := Aside0.mk hb; clear n0_ n1_ n2_ ho hb hg_ hat_; have z0 : w13.cell? ⟨g3, 0, none⟩ = some v0 := (blk_cell BK3.out 0).trans rfl; have f0 := blk_frozen BK3.out 0))
    have n0_ : Aside0 ((w13.setCell ⟨g3, 0, none⟩ (.slice A0u n0u c0u)).heap[g3]? = some (.cells #[(.slice A0u n0u c0u), (.slice A1v n1v c1v)] 33 (0, 0))) := ⟨(blk_set BK3.out 0 _).trans rfl⟩
    have n1_ : Aside0 (Below w.heap.size w (w13.setCell ⟨g3, 0, none⟩ (.slice A0u n0u c0u))) := ⟨below_set HBA.out GE3.out⟩
    have n2_ := Aside0.mk (Kd.R_set HU0.out BK3.out (by decide) 0 (.slice A0u n0u c0u))
    have n3_ := Aside0.mk (Kd.R_set HU1.out BK3.out (by decide) 0 (.slice A0u n0u c0u))
    have n4_ := Aside0.mk (K4.out.trans (KT.set BK3.out (by decide) 0 (.slice A0u n0u c0u)))
    have n5_ : Aside0 ((w13.setCell ⟨g3, 0, none⟩ (.slice A0u n0u c0u)).heap[g2]? = _) := ⟨blk_far BK2.out NB.out (.slice A0u n0u c0u)⟩
    generalize w13.setCell ⟨g3, 0, none⟩ (.slice A0u n0u c0u) = wb at n0_ n1_ n2_ n3_ n4_ n5_ ⊢
    clear BK3 BK2 HBA HU0 HU1 K4 z0 f0
    have BK3 := n0_
    have HBA := n1_
    have HU0 := n2_
    have HU1 := n3_
    have K4 := n4_
    have BK2 := n5_
    clear n0_ n1_ n2_ n3_ n4_ n5_
    go_wp2_with (first
      | (refine wpList_load_row rfl 33 (.tmp 3) rfl g3 rfl 33 #[(.slice A0u n0u c0u), (.slice A1v n1v c1v)] (0, 0) _ BK3.out Tryd.underlying33 rfl (by kernel_rfl) ?_)
      | (refine wpList_store_row rfl 33 (.tmp 2) (.tmp 50) rfl g2 #[(.slice A0u n0u c0u), (.slice A1v n1v c1v)] rfl rfl 33 _ BK2.out (by kernel_rfl) (by kernel_rfl) (by kernel_rfl) ?_; have n0_ : Aside0 ((wb.setRow g2 #[(.slice A0u n0u c0u), (.slice A1v n1v c1v)]).heap[g2]? = some (.cells #[(.slice A0u n0u c0u), (.slice A1v n1v c1v)] 33 (0, 0))) := ⟨setRow_heap _ _ _ _ _ _ BK2.out⟩; have n1_ := Aside0.mk (below_setRow HBA.out GE2.out #[(.slice A0u n0u c0u), (.slice A1v n1v c1v)]); have n2_ := Aside0.mk (Kd.R_mono (R_setRow HU0.out BK2.out (by decide) (cs' := #[(.slice A0u n0u c0u), (.slice A1v n1v c1v)])) (fun _ _ => trivial)); have n3_ := Aside0.mk (Kd.R_mono (R_setRow HU1.out BK2.out (by decide) (cs' := #[(.slice A0u n0u c0u), (.slice A1v n1v c1v)])) (fun _ _ => trivial)); have n4_ : Aside0 (KT 3 wb (wb.setRow g2 #[(.slice A0u n0u c0u), (.slice A1v n1v c1v)])) := ⟨KT.setRow BK2.out (by decide)⟩; generalize wb.setRow g2 #[(.slice A0u n0u c0u), (.slice A1v n1v c1v)] = wc at n0_ n1_ n2_ n3_ n4_ ⊢))
    refine bodyPost_ret (results_cell_row rfl _ _ g2 33 #[(.slice A0u n0u c0u), (.slice A1v n1v c1v)] (0, 0) _ rfl n0_.out Tryd.underlying33 rfl (by kernel_rfl)) rfl ?_
    exact ⟨(.slice A0u n0u c0u), (.slice A1v n1v c1v), rfl, ⟨rows0, rows1, LR0.out, LR1.out, n2_.out, n3_.out, fun i y hy => (HRW.out i y hy).kt (K4.out.trans n4_.out)⟩, n1_.out⟩
end Go.Proofs.YtiapfhlipoomaaaDoor.Given
end
section
namespace Go.Proofs.YtiapfhlipoomaaaDoor.Print
open Go.RowKit
open Go.RowKit Go.Proofs.YtiapfhlipoomaaaDoorW.PrintWords Go.Proofs.YtiapfhlipoomaaaDoorW.PrintLast Go.Proofs.YtiapfhlipoomaaaDoorW.PrintMore
attribute [local go_sem] max2_int min2_int max_two min_two max_three min_three max_four min_four
set_option linter.unusedVariables false
set_option linter.unusedSimpArgs false
def squintlaw18_sameInts.l0 : Nat → List Int → List Int → Int → Option (Bool)
  | 0, _, _, _ => none
  | k + 1, x0, x1, x5 => if x5 < (x0.length : Int) then (if 0 ≤ x5 then (if x5 < (x1.length : Int) then (if (rd x0 x5) = (rd x1 x5) then (squintlaw18_sameInts.l0 k x0 x1 (wrap64 (x5 + 1))) else (some false)) else (none)) else (none)) else (some true)
def squintlaw18_sameInts.f (k : Nat) (l0 : List Int) (l1 : List Int) : Option (Bool) := if (l0.length : Int) = (l1.length : Int) then (squintlaw18_sameInts.l0 k l0 l1 0) else (some false)
set_option maxHeartbeats 8000000 in
set_option maxRecDepth 100000 in
theorem squintlaw18_sameInts.calls (k : Nat) (A0 : Option Addr) (c0 : Nat) (l0 : List Int) (A1 : Option Addr) (c1 : Nat) (l1 : List Int) (r : Bool) (w : World) (hr0 : Kd.C (Kd.int .i64) w A0 l0.length l0) (hc0 : l0.length ≤ c0) (hr1 : Kd.C (Kd.int .i64) w A1 l1.length l1) (hc1 : l1.length ≤ c1) (h : squintlaw18_sameInts.f k l0 l1 = some r) :
    Calls Tryd.prog 36 #[.slice A0 l0.length c0, .slice A1 l1.length c1] w fun e w' => e = .returned (.bool r) ∧ Drawn0 w w' := by
  have HR0 := Aside0.mk hr0
  have HC0 := Aside0.mk hc0
  clear hr0 hc0
  have HR1 := Aside0.mk hr1
  have HC1 := Aside0.mk hc1
  clear hr1 hc1
  have H : (if (l0.length : Int) = (l1.length : Int) then (squintlaw18_sameInts.l0 k l0 l1 0) else (some false)) = some r := h
  clear h
  by_cases c3 : (l0.length : Int) = (l1.length : Int)
  · rw [if_pos c3] at H
    have c3b0 : ((l0.length : Int) == (l1.length : Int)) = true := beq_iff_eq.mpr c3
    have c3b1 : ((l0.length : Int) != (l1.length : Int)) = false := bne_eq_false_iff_eq.mpr c3
    have c3b2 : (l0.length == l1.length) = true := by first | simpa using c3 | (simp at c3 ⊢; omega)
    clear c3
    have H' := Aside0.mk H
    clear H
    go_enter Tryd.func36, Tryd.ntmps36
    go_wp2
    repeat (go_quiet (fail); try go_wp2)
    go_loopg [5] k (fun kq v5 w' => ∃ (x5_1 : Int), v5 = .int .i64 x5_1 ∧ Aside0 (squintlaw18_sameInts.l0 kq l0 l1 x5_1 = some r) ∧ Aside0 (kq ≤ k) ∧ Drawn0 w w')
    case atStart => exact ⟨(0), (by first | rfl | (simp; done) | (simp [*]; done)), H', ⟨Nat.le_refl _⟩, by repeat (first | exact Drawn0.refl _ | apply Drawn0.step)⟩
    case round =>
      clear H'
      try clear c1
      try clear p2
      try clear c3
      try clear c3b0
      try clear c3b1
      try clear c3b2
      obtain ⟨x5_1, rfl, HA, HK1, ⟨m1, rfl⟩⟩ := hrel
      cases gk with
      | zero => exact absurd HA.out (by simp [squintlaw18_sameInts.l0])
      | succ k1 =>
        have H := HA.out
        clear HA
        simp only [squintlaw18_sameInts.l0] at H
        by_cases c4 : x5_1 < (l0.length : Int)
        · rw [if_pos c4] at H
          have c4b0 : decide (x5_1 < (l0.length : Int)) = true := decide_eq_true c4
          clear c4
          by_cases c5 : 0 ≤ x5_1
          · rw [if_pos c5] at H
            have c5b0 : decide (0 ≤ x5_1) = true := decide_eq_true c5
            clear c5
            by_cases c6 : x5_1 < (l1.length : Int)
            · rw [if_pos c6] at H
              have c6b0 : decide (x5_1 < (l1.length : Int)) = true := decide_eq_true c6
              clear c6
              by_cases c7 : (rd l0 x5_1) = (rd l1 x5_1)
              · rw [if_pos c7] at H
                have c7b0 : ((rd l0 x5_1) == (rd l1 x5_1)) = true := beq_iff_eq.mpr c7
                have c7b1 : ((rd l0 x5_1) != (rd l1 x5_1)) = false := bne_eq_false_iff_eq.mpr c7
                clear c7
                have H' := Aside0.mk H
                clear H
                have p246 : 0 ≤ (x5_1 : Int) := of_decide_eq_true (by first | (with_reducible assumption) | assumption)
                have q246 : x5_1 < (l0.length : Int) := of_decide_eq_true (by first | (with_reducible assumption) | assumption)
                obtain ⟨ad246, e246, hx246_0⟩ := Kd.at_int HR0.out x5_1 p246 q246
                cases e246
                replace p246 := eq_true p246
                replace q246 := eq_true q246
                have p247 : 0 ≤ (x5_1 : Int) := of_decide_eq_true (by first | (with_reducible assumption) | assumption)
                have q247 : x5_1 < (l1.length : Int) := of_decide_eq_true (by first | (with_reducible assumption) | assumption)
                obtain ⟨ad247, e247, hx247_0⟩ := Kd.at_int HR1.out x5_1 p247 q247
                cases e247
                replace p247 := eq_true p247
                replace q247 := eq_true q247
                go_wp2
                repeat (go_quiet (fail); try go_wp2)
                go_roundg k1
                case measure => have := HK1.out; omega
                case rel => exact ⟨(wrap64 (x5_1 + 1)), (by first | rfl | (simp; done) | (simp [*]; done)), H', ⟨by have := HK1.out; omega⟩, by repeat (first | exact Drawn0.refl _ | apply Drawn0.step)⟩
              · rw [if_neg c7] at H
                have c7b0 : ((rd l0 x5_1) == (rd l1 x5_1)) = false := beq_eq_false_iff_ne.mpr c7
                have c7b1 : ((rd l0 x5_1) != (rd l1 x5_1)) = true := bne_iff_ne.mpr c7
                obtain rfl := Option.some.inj H
                have p246 : 0 ≤ (x5_1 : Int) := of_decide_eq_true (by first | (with_reducible assumption) | assumption)
                have q246 : x5_1 < (l0.length : Int) := of_decide_eq_true (by first | (with_reducible assumption) | assumption)
                obtain ⟨ad246, e246, hx246_0⟩ := Kd.at_int HR0.out x5_1 p246 q246
                cases e246
                replace p246 := eq_true p246
                replace q246 := eq_true q246
                have p247 : 0 ≤ (x5_1 : Int) := of_decide_eq_true (by first | (with_reducible assumption) | assumption)
                have q247 : x5_1 < (l1.length : Int) := of_decide_eq_true (by first | (with_reducible assumption) | assumption)
                obtain ⟨ad247, e247, hx247_0⟩ := Kd.at_int HR1.out x5_1 p247 q247
                cases e247
                replace p247 := eq_true p247
                replace q247 := eq_true q247
                go_wp2
                repeat (go_quiet (fail); try go_wp2)
                go_ret
                exact ⟨by first | rfl | (simp; done) | (simp [*]; done), by repeat (first | exact Drawn0.refl _ | apply Drawn0.step)⟩
            · rw [if_neg c6] at H
              exact absurd H (by simp)
          · rw [if_neg c5] at H
            exact absurd H (by simp)
        · rw [if_neg c4] at H
          have c4b0 : decide (x5_1 < (l0.length : Int)) = false := decide_eq_false c4
          clear c4
          obtain rfl := Option.some.inj H
          go_wp2
          repeat (go_quiet (fail); try go_wp2)
          go_ret
          exact ⟨by first | rfl | (simp; done) | (simp [*]; done), by repeat (first | exact Drawn0.refl _ | apply Drawn0.step)⟩
  · rw [if_neg c3] at H
    have c3b0 : ((l0.length : Int) == (l1.length : Int)) = false := beq_eq_false_iff_ne.mpr c3
    have c3b1 : ((l0.length : Int) != (l1.length : Int)) = true := bne_iff_ne.mpr c3
    have c3b2 : (l0.length == l1.length) = false := by first | simpa using c3 | (simp at c3 ⊢; omega)
    obtain rfl := Option.some.inj H
    go_enter Tryd.func36, Tryd.ntmps36
    go_wp2
    repeat (go_quiet (fail); try go_wp2)
    go_ret
    exact ⟨by first | rfl | (simp; done) | (simp [*]; done), by repeat (first | exact Drawn0.refl _ | apply Drawn0.step)⟩
def squintlaw18_sameEvent.f (k : Nat) (a0_0 : Int) (a0_1 : Int) (a0_2 : Int) (a0_3 : Int) (a0_4 : Int) (a0_5 : Int) (a0_6 : Int) (l0_7 : List Int) (a1_0 : Int) (a1_1 : Int) (a1_2 : Int) (a1_3 : Int) (a1_4 : Int) (a1_5 : Int) (a1_6 : Int) (l1_7 : List Int) : Option (Bool) := if a0_0 = a1_0 then (if a0_1 = a1_1 then (if a0_2 = a1_2 then (if a0_3 = a1_3 then (if a0_4 = a1_4 then (if a0_5 = a1_5 then (if a0_6 = a1_6 then ((squintlaw18_sameInts.f k l0_7 l1_7).bind fun t250 => (some t250)) else (some false)) else (some false)) else (some false)) else (some false)) else (some false)) else (some false)) else (some false)
set_option maxHeartbeats 8000000 in
set_option maxRecDepth 100000 in
theorem squintlaw18_sameEvent.calls (k : Nat) (a0_0 : Int) (a0_1 : Int) (a0_2 : Int) (a0_3 : Int) (a0_4 : Int) (a0_5 : Int) (a0_6 : Int) (A0_7 : Option Addr) (c0_7 : Nat) (l0_7 : List Int) (a1_0 : Int) (a1_1 : Int) (a1_2 : Int) (a1_3 : Int) (a1_4 : Int) (a1_5 : Int) (a1_6 : Int) (A1_7 : Option Addr) (c1_7 : Nat) (l1_7 : List Int) (r : Bool) (w : World) (hr0_7 : Kd.C (Kd.int .i64) w A0_7 l0_7.length l0_7) (hc0_7 : l0_7.length ≤ c0_7) (hr1_7 : Kd.C (Kd.int .i64) w A1_7 l1_7.length l1_7) (hc1_7 : l1_7.length ≤ c1_7) (h : squintlaw18_sameEvent.f k a0_0 a0_1 a0_2 a0_3 a0_4 a0_5 a0_6 l0_7 a1_0 a1_1 a1_2 a1_3 a1_4 a1_5 a1_6 l1_7 = some r) :
    Calls Tryd.prog 39 #[.agg #[.int .i64 a0_0, .int .i64 a0_1, .int .i64 a0_2, .int .i64 a0_3, .int .i64 a0_4, .int .i64 a0_5, .int .i64 a0_6, .slice A0_7 l0_7.length c0_7], .agg #[.int .i64 a1_0, .int .i64 a1_1, .int .i64 a1_2, .int .i64 a1_3, .int .i64 a1_4, .int .i64 a1_5, .int .i64 a1_6, .slice A1_7 l1_7.length c1_7]] w fun e w' => e = .returned (.bool r) ∧ Below w.heap.size w w' := by
  have hu24 := Tryd.underlying24
  have HR0_7 := Aside0.mk hr0_7
  have HC0_7 := Aside0.mk hc0_7
  clear hr0_7 hc0_7
  have HR1_7 := Aside0.mk hr1_7
  have HC1_7 := Aside0.mk hc1_7
  clear hr1_7 hc1_7
  have HB := Aside0.mk (Below.refl w.heap.size w)
  have H : (if a0_0 = a1_0 then (if a0_1 = a1_1 then (if a0_2 = a1_2 then (if a0_3 = a1_3 then (if a0_4 = a1_4 then (if a0_5 = a1_5 then (if a0_6 = a1_6 then ((squintlaw18_sameInts.f k l0_7 l1_7).bind fun t250 => (some t250)) else (some false)) else (some false)) else (some false)) else (some false)) else (some false)) else (some false)) else (some false)) = some r := h
  clear h
  by_cases c3 : a0_0 = a1_0
  · rw [if_pos c3] at H
    have c3b0 : (a0_0 == a1_0) = true := beq_iff_eq.mpr c3
    have c3b1 : (a0_0 != a1_0) = false := bne_eq_false_iff_eq.mpr c3
    clear c3
    by_cases c4 : a0_1 = a1_1
    · rw [if_pos c4] at H
      have c4b0 : (a0_1 == a1_1) = true := beq_iff_eq.mpr c4
      have c4b1 : (a0_1 != a1_1) = false := bne_eq_false_iff_eq.mpr c4
      clear c4
      by_cases c5 : a0_2 = a1_2
      · rw [if_pos c5] at H
        have c5b0 : (a0_2 == a1_2) = true := beq_iff_eq.mpr c5
        have c5b1 : (a0_2 != a1_2) = false := bne_eq_false_iff_eq.mpr c5
        clear c5
        by_cases c6 : a0_3 = a1_3
        · rw [if_pos c6] at H
          have c6b0 : (a0_3 == a1_3) = true := beq_iff_eq.mpr c6
          have c6b1 : (a0_3 != a1_3) = false := bne_eq_false_iff_eq.mpr c6
          clear c6
          by_cases c7 : a0_4 = a1_4
          · rw [if_pos c7] at H
            have c7b0 : (a0_4 == a1_4) = true := beq_iff_eq.mpr c7
            have c7b1 : (a0_4 != a1_4) = false := bne_eq_false_iff_eq.mpr c7
            clear c7
            by_cases c8 : a0_5 = a1_5
            · rw [if_pos c8] at H
              have c8b0 : (a0_5 == a1_5) = true := beq_iff_eq.mpr c8
              have c8b1 : (a0_5 != a1_5) = false := bne_eq_false_iff_eq.mpr c8
              clear c8
              by_cases c9 : a0_6 = a1_6
              · rw [if_pos c9] at H
                have c9b0 : (a0_6 == a1_6) = true := beq_iff_eq.mpr c9
                have c9b1 : (a0_6 != a1_6) = false := bne_eq_false_iff_eq.mpr c9
                clear c9
                replace H := Option.bind_eq_some_iff.mp H
                obtain ⟨t250, A100, H⟩ := H
                replace H : (some t250) = some r := H
                have A10 := Aside0.mk A100
                clear A100
                obtain rfl := Option.some.inj H
                go_enter Tryd.func39, Tryd.ntmps39
                go_wp2_with (first | ((with_reducible refine gate_dst (N := 2) rfl ?_); refine box_event ?hg (N := 2) ?hd (cs := #[.int .i64 a0_0, .int .i64 a0_1, .int .i64 a0_2, .int .i64 a0_3, .int .i64 a0_4, .int .i64 a0_5, .int .i64 a0_6, .slice A0_7 l0_7.length c0_7]) (t := 24) ?hr ?_; (case hd => rfl); (case hg => rfl); (case hr => first | (go_simp; done) | (go_simp; rfl)); intro gb248 hg w11 hbox hb; have n0_ := Aside0.mk (below_step (by repeat (first | (with_reducible first | exact HB.out | apply below_alloc | apply pw_below_drewN | apply below_drew1) | exact HB.out)) hb); have n1_ := Aside0.mk (hbox); have n2_ := Aside0.mk ((by rw [hg]; exact (below_size (by repeat (first | (with_reducible first | exact HB.out | apply below_alloc | apply pw_below_drewN | apply below_drew1) | exact HB.out))) : w.heap.size ≤ gb248)); have n3_ := Aside0.mk ((by rw [hg]; exact (below_size (by repeat (first | (with_reducible first | exact HB.out | apply below_alloc | apply pw_below_drewN | apply below_drew1) | exact HB.out))) : w.heap.size ≤ gb248)); clear HB; have HB := n0_; have BK248 := n1_; have GW248 := n2_; have GE248 := n3_; clear n0_ n1_ n2_ n3_; clear hb hbox hg) | ((with_reducible refine gate_dst (N := 3) rfl ?_); refine box_event ?hg (N := 3) ?hd (cs := #[.int .i64 a1_0, .int .i64 a1_1, .int .i64 a1_2, .int .i64 a1_3, .int .i64 a1_4, .int .i64 a1_5, .int .i64 a1_6, .slice A1_7 l1_7.length c1_7]) (t := 24) ?hr ?_; (case hd => rfl); (case hg => rfl); (case hr => first | (go_simp; done) | (go_simp; rfl)); intro gb249 hg w12 hbox hb; have n0_ := Aside0.mk (blk_below (g := gb248) (o := .cells #[.int .i64 a0_0, .int .i64 a0_1, .int .i64 a0_2, .int .i64 a0_3, .int .i64 a0_4, .int .i64 a0_5, .int .i64 a0_6, .slice A0_7 l0_7.length c0_7] 24 (0, 0)) (by (with_reducible repeat (first | refine blk_drewN ?_ _ | refine blk_drew ?_ | refine blk_alloc ?_ _)); exact BK248.out) hb); have n1_ := Aside0.mk (below_step (by repeat (first | (with_reducible first | exact HB.out | apply below_alloc | apply pw_below_drewN | apply below_drew1 | refine below_set ?_ GE248.out) | exact HB.out)) hb); have n2_ := Aside0.mk (hbox); have n3_ := Aside0.mk ((by rw [hg]; exact (below_size (by repeat (first | (with_reducible first | exact HB.out | apply below_alloc | apply pw_below_drewN | apply below_drew1 | refine below_set ?_ GE248.out) | exact HB.out))) : w.heap.size ≤ gb249)); have n4_ := Aside0.mk ((by rw [hg]; exact (below_size (by repeat (first | (with_reducible first | exact HB.out | apply below_alloc | apply pw_below_drewN | apply below_drew1 | refine below_set ?_ GE248.out) | exact HB.out))) : w.heap.size ≤ gb249)); have n5_ := Aside0.mk ((by rw [hg]; exact Nat.ne_of_lt (blk_lt (g := gb248) (o := .cells #[.int .i64 a0_0, .int .i64 a0_1, .int .i64 a0_2, .int .i64 a0_3, .int .i64 a0_4, .int .i64 a0_5, .int .i64 a0_6, .slice A0_7 l0_7.length c0_7] 24 (0, 0)) (by (with_reducible repeat (first | refine blk_drewN ?_ _ | refine blk_drew ?_ | refine blk_alloc ?_ _)); exact BK248.out)) : gb248 ≠ gb249)); have n6_ := Aside0.mk ((by rw [hg]; exact Nat.ne_of_gt (blk_lt (g := gb248) (o := .cells #[.int .i64 a0_0, .int .i64 a0_1, .int .i64 a0_2, .int .i64 a0_3, .int .i64 a0_4, .int .i64 a0_5, .int .i64 a0_6, .slice A0_7 l0_7.length c0_7] 24 (0, 0)) (by (with_reducible repeat (first | refine blk_drewN ?_ _ | refine blk_drew ?_ | refine blk_alloc ?_ _)); exact BK248.out)) : gb249 ≠ gb248)); clear BK248; clear HB; have BK248 := n0_; have HB := n1_; have BK249 := n2_; have GW249 := n3_; have GE249 := n4_; have NB248_249 := n5_; have NB249_248 := n6_; clear n0_ n1_ n2_ n3_ n4_ n5_ n6_; clear hb hbox hg; have hnb13 := NB248_249.out; have hnc13 := NB249_248.out; have hcz14_0 : w12.cell? ⟨gb248, 0, none⟩ = some (.int .i64 a0_0) := (blk_cell BK248.out 0).trans rfl; have hcz14_1 : w12.cell? ⟨gb248, 1, none⟩ = some (.int .i64 a0_1) := (blk_cell BK248.out 1).trans rfl; have hcz14_2 : w12.cell? ⟨gb248, 2, none⟩ = some (.int .i64 a0_2) := (blk_cell BK248.out 2).trans rfl; have hcz14_3 : w12.cell? ⟨gb248, 3, none⟩ = some (.int .i64 a0_3) := (blk_cell BK248.out 3).trans rfl; have hcz14_4 : w12.cell? ⟨gb248, 4, none⟩ = some (.int .i64 a0_4) := (blk_cell BK248.out 4).trans rfl; have hcz14_5 : w12.cell? ⟨gb248, 5, none⟩ = some (.int .i64 a0_5) := (blk_cell BK248.out 5).trans rfl; have hcz14_6 : w12.cell? ⟨gb248, 6, none⟩ = some (.int .i64 a0_6) := (blk_cell BK248.out 6).trans rfl; have hcz14_7 : w12.cell? ⟨gb248, 7, none⟩ = some (.slice A0_7 l0_7.length c0_7) := (blk_cell BK248.out 7).trans rfl; have hfz14_0 := blk_frozen BK248.out 0; have hfz14_1 := blk_frozen BK248.out 1; have hfz14_2 := blk_frozen BK248.out 2; have hfz14_3 := blk_frozen BK248.out 3; have hfz14_4 := blk_frozen BK248.out 4; have hfz14_5 := blk_frozen BK248.out 5; have hfz14_6 := blk_frozen BK248.out 6; have hfz14_7 := blk_frozen BK248.out 7; have hcz15_0 : w12.cell? ⟨gb249, 0, none⟩ = some (.int .i64 a1_0) := (blk_cell BK249.out 0).trans rfl; have hcz15_1 : w12.cell? ⟨gb249, 1, none⟩ = some (.int .i64 a1_1) := (blk_cell BK249.out 1).trans rfl; have hcz15_2 : w12.cell? ⟨gb249, 2, none⟩ = some (.int .i64 a1_2) := (blk_cell BK249.out 2).trans rfl; have hcz15_3 : w12.cell? ⟨gb249, 3, none⟩ = some (.int .i64 a1_3) := (blk_cell BK249.out 3).trans rfl; have hcz15_4 : w12.cell? ⟨gb249, 4, none⟩ = some (.int .i64 a1_4) := (blk_cell BK249.out 4).trans rfl; have hcz15_5 : w12.cell? ⟨gb249, 5, none⟩ = some (.int .i64 a1_5) := (blk_cell BK249.out 5).trans rfl; have hcz15_6 : w12.cell? ⟨gb249, 6, none⟩ = some (.int .i64 a1_6) := (blk_cell BK249.out 6).trans rfl; have hcz15_7 : w12.cell? ⟨gb249, 7, none⟩ = some (.slice A1_7 l1_7.length c1_7) := (blk_cell BK249.out 7).trans rfl; have hfz15_0 := blk_frozen BK249.out 0; have hfz15_1 := blk_frozen BK249.out 1; have hfz15_2 := blk_frozen BK249.out 2; have hfz15_3 := blk_frozen BK249.out 3; have hfz15_4 := blk_frozen BK249.out 4; have hfz15_5 := blk_frozen BK249.out 5; have hfz15_6 := blk_frozen BK249.out 6; have hfz15_7 := blk_frozen BK249.out 7) | (go_at_call 36; (with_reducible refine (squintlaw18_sameInts.calls k _ _ l0_7 _ _ l1_7 t250 _ ?side1 ?side2 ?side3 ?side4 A10.out).mono ?_); (case side1 => repeat (first | exact (Kd.C_below HR0_7.out HB.out) | (with_reducible refine Kd.C_alloc ?_ _) | (with_reducible refine Kd.C_drewN ?_ _) | (with_reducible refine Kd.C_drew ?_))); (case side2 => exact HC0_7.out); (case side3 => repeat (first | exact (Kd.C_below HR1_7.out HB.out) | (with_reducible refine Kd.C_alloc ?_ _) | (with_reducible refine Kd.C_drewN ?_ _) | (with_reducible refine Kd.C_drew ?_))); (case side4 => exact HC1_7.out); rintro e w' ⟨rfl, ⟨nd, rfl⟩⟩))
                go_ret
                exact ⟨by first | rfl | (simp [errW_none, errW_some] <;> rfl) | (simp [*, errW_none, errW_some] <;> rfl), by repeat (first | (with_reducible first | exact HB.out | apply below_alloc | apply pw_below_drewN | apply below_drew1 | refine below_set ?_ GE248.out | refine below_set ?_ GE249.out) | exact HB.out)⟩
              · rw [if_neg c9] at H
                have c9b0 : (a0_6 == a1_6) = false := beq_eq_false_iff_ne.mpr c9
                have c9b1 : (a0_6 != a1_6) = true := bne_iff_ne.mpr c9
                obtain rfl := Option.some.inj H
                go_enter Tryd.func39, Tryd.ntmps39
                go_wp2_with (first | ((with_reducible refine gate_dst (N := 2) rfl ?_); refine box_event ?hg (N := 2) ?hd (cs := #[.int .i64 a0_0, .int .i64 a0_1, .int .i64 a0_2, .int .i64 a0_3, .int .i64 a0_4, .int .i64 a0_5, .int .i64 a0_6, .slice A0_7 l0_7.length c0_7]) (t := 24) ?hr ?_; (case hd => rfl); (case hg => rfl); (case hr => first | (go_simp; done) | (go_simp; rfl)); intro gb248 hg w16 hbox hb; have n0_ := Aside0.mk (below_step (by repeat (first | (with_reducible first | exact HB.out | apply below_alloc | apply pw_below_drewN | apply below_drew1) | exact HB.out)) hb); have n1_ := Aside0.mk (hbox); have n2_ := Aside0.mk ((by rw [hg]; exact (below_size (by repeat (first | (with_reducible first | exact HB.out | apply below_alloc | apply pw_below_drewN | apply below_drew1) | exact HB.out))) : w.heap.size ≤ gb248)); have n3_ := Aside0.mk ((by rw [hg]; exact (below_size (by repeat (first | (with_reducible first | exact HB.out | apply below_alloc | apply pw_below_drewN | apply below_drew1) | exact HB.out))) : w.heap.size ≤ gb248)); clear HB; have HB := n0_; have BK248 := n1_; have GW248 := n2_; have GE248 := n3_; clear n0_ n1_ n2_ n3_; clear hb hbox hg) | ((with_reducible refine gate_dst (N := 3) rfl ?_); refine box_event ?hg (N := 3) ?hd (cs := #[.int .i64 a1_0, .int .i64 a1_1, .int .i64 a1_2, .int .i64 a1_3, .int .i64 a1_4, .int .i64 a1_5, .int .i64 a1_6, .slice A1_7 l1_7.length c1_7]) (t := 24) ?hr ?_; (case hd => rfl); (case hg => rfl); (case hr => first | (go_simp; done) | (go_simp; rfl)); intro gb249 hg w17 hbox hb; have n0_ := Aside0.mk (blk_below (g := gb248) (o := .cells #[.int .i64 a0_0, .int .i64 a0_1, .int .i64 a0_2, .int .i64 a0_3, .int .i64 a0_4, .int .i64 a0_5, .int .i64 a0_6, .slice A0_7 l0_7.length c0_7] 24 (0, 0)) (by (with_reducible repeat (first | refine blk_drewN ?_ _ | refine blk_drew ?_ | refine blk_alloc ?_ _)); exact BK248.out) hb); have n1_ := Aside0.mk (below_step (by repeat (first | (with_reducible first | exact HB.out | apply below_alloc | apply pw_below_drewN | apply below_drew1 | refine below_set ?_ GE248.out) | exact HB.out)) hb); have n2_ := Aside0.mk (hbox); have n3_ := Aside0.mk ((by rw [hg]; exact (below_size (by repeat (first | (with_reducible first | exact HB.out | apply below_alloc | apply pw_below_drewN | apply below_drew1 | refine below_set ?_ GE248.out) | exact HB.out))) : w.heap.size ≤ gb249)); have n4_ := Aside0.mk ((by rw [hg]; exact (below_size (by repeat (first | (with_reducible first | exact HB.out | apply below_alloc | apply pw_below_drewN | apply below_drew1 | refine below_set ?_ GE248.out) | exact HB.out))) : w.heap.size ≤ gb249)); have n5_ := Aside0.mk ((by rw [hg]; exact Nat.ne_of_lt (blk_lt (g := gb248) (o := .cells #[.int .i64 a0_0, .int .i64 a0_1, .int .i64 a0_2, .int .i64 a0_3, .int .i64 a0_4, .int .i64 a0_5, .int .i64 a0_6, .slice A0_7 l0_7.length c0_7] 24 (0, 0)) (by (with_reducible repeat (first | refine blk_drewN ?_ _ | refine blk_drew ?_ | refine blk_alloc ?_ _)); exact BK248.out)) : gb248 ≠ gb249)); have n6_ := Aside0.mk ((by rw [hg]; exact Nat.ne_of_gt (blk_lt (g := gb248) (o := .cells #[.int .i64 a0_0, .int .i64 a0_1, .int .i64 a0_2, .int .i64 a0_3, .int .i64 a0_4, .int .i64 a0_5, .int .i64 a0_6, .slice A0_7 l0_7.length c0_7] 24 (0, 0)) (by (with_reducible repeat (first | refine blk_drewN ?_ _ | refine blk_drew ?_ | refine blk_alloc ?_ _)); exact BK248.out)) : gb249 ≠ gb248)); clear BK248; clear HB; have BK248 := n0_; have HB := n1_; have BK249 := n2_; have GW249 := n3_; have GE249 := n4_; have NB248_249 := n5_; have NB249_248 := n6_; clear n0_ n1_ n2_ n3_ n4_ n5_ n6_; clear hb hbox hg; have hnb18 := NB248_249.out; have hnc18 := NB249_248.out; have hcz19_0 : w17.cell? ⟨gb248, 0, none⟩ = some (.int .i64 a0_0) := (blk_cell BK248.out 0).trans rfl; have hcz19_1 : w17.cell? ⟨gb248, 1, none⟩ = some (.int .i64 a0_1) := (blk_cell BK248.out 1).trans rfl; have hcz19_2 : w17.cell? ⟨gb248, 2, none⟩ = some (.int .i64 a0_2) := (blk_cell BK248.out 2).trans rfl; have hcz19_3 : w17.cell? ⟨gb248, 3, none⟩ = some (.int .i64 a0_3) := (blk_cell BK248.out 3).trans rfl; have hcz19_4 : w17.cell? ⟨gb248, 4, none⟩ = some (.int .i64 a0_4) := (blk_cell BK248.out 4).trans rfl; have hcz19_5 : w17.cell? ⟨gb248, 5, none⟩ = some (.int .i64 a0_5) := (blk_cell BK248.out 5).trans rfl; have hcz19_6 : w17.cell? ⟨gb248, 6, none⟩ = some (.int .i64 a0_6) := (blk_cell BK248.out 6).trans rfl; have hcz19_7 : w17.cell? ⟨gb248, 7, none⟩ = some (.slice A0_7 l0_7.length c0_7) := (blk_cell BK248.out 7).trans rfl; have hfz19_0 := blk_frozen BK248.out 0; have hfz19_1 := blk_frozen BK248.out 1; have hfz19_2 := blk_frozen BK248.out 2; have hfz19_3 := blk_frozen BK248.out 3; have hfz19_4 := blk_frozen BK248.out 4; have hfz19_5 := blk_frozen BK248.out 5; have hfz19_6 := blk_frozen BK248.out 6; have hfz19_7 := blk_frozen BK248.out 7; have hcz20_0 : w17.cell? ⟨gb249, 0, none⟩ = some (.int .i64 a1_0) := (blk_cell BK249.out 0).trans rfl; have hcz20_1 : w17.cell? ⟨gb249, 1, none⟩ = some (.int .i64 a1_1) := (blk_cell BK249.out 1).trans rfl; have hcz20_2 : w17.cell? ⟨gb249, 2, none⟩ = some (.int .i64 a1_2) := (blk_cell BK249.out 2).trans rfl; have hcz20_3 : w17.cell? ⟨gb249, 3, none⟩ = some (.int .i64 a1_3) := (blk_cell BK249.out 3).trans rfl; have hcz20_4 : w17.cell? ⟨gb249, 4, none⟩ = some (.int .i64 a1_4) := (blk_cell BK249.out 4).trans rfl; have hcz20_5 : w17.cell? ⟨gb249, 5, none⟩ = some (.int .i64 a1_5) := (blk_cell BK249.out 5).trans rfl; have hcz20_6 : w17.cell? ⟨gb249, 6, none⟩ = some (.int .i64 a1_6) := (blk_cell BK249.out 6).trans rfl; have hcz20_7 : w17.cell? ⟨gb249, 7, none⟩ = some (.slice A1_7 l1_7.length c1_7) := (blk_cell BK249.out 7).trans rfl; have hfz20_0 := blk_frozen BK249.out 0; have hfz20_1 := blk_frozen BK249.out 1; have hfz20_2 := blk_frozen BK249.out 2; have hfz20_3 := blk_frozen BK249.out 3; have hfz20_4 := blk_frozen BK249.out 4; have hfz20_5 := blk_frozen BK249.out 5; have hfz20_6 := blk_frozen BK249.out 6; have hfz20_7 := blk_frozen BK249.out 7))
                go_ret
                exact ⟨by first | rfl | (simp [errW_none, errW_some] <;> rfl) | (simp [*, errW_none, errW_some] <;> rfl), by repeat (first | (with_reducible first | exact HB.out | apply below_alloc | apply pw_below_drewN | apply below_drew1 | refine below_set ?_ GE248.out | refine below_set ?_ GE249.out) | exact HB.out)⟩
            · rw [if_neg c8] at H
              have c8b0 : (a0_5 == a1_5) = false := beq_eq_false_iff_ne.mpr c8
              have c8b1 : (a0_5 != a1_5) = true := bne_iff_ne.mpr c8
              obtain rfl := Option.some.inj H
              go_enter Tryd.func39, Tryd.ntmps39
              go_wp2_with (first | ((with_reducible refine gate_dst (N := 2) rfl ?_); refine box_event ?hg (N := 2) ?hd (cs := #[.int .i64 a0_0, .int .i64 a0_1, .int .i64 a0_2, .int .i64 a0_3, .int .i64 a0_4, .int .i64 a0_5, .int .i64 a0_6, .slice A0_7 l0_7.length c0_7]) (t := 24) ?hr ?_; (case hd => rfl); (case hg => rfl); (case hr => first | (go_simp; done) | (go_simp; rfl)); intro gb248 hg w21 hbox hb; have n0_ := Aside0.mk (below_step (by repeat (first | (with_reducible first | exact HB.out | apply below_alloc | apply pw_below_drewN | apply below_drew1) | exact HB.out)) hb); have n1_ := Aside0.mk (hbox); have n2_ := Aside0.mk ((by rw [hg]; exact (below_size (by repeat (first | (with_reducible first | exact HB.out | apply below_alloc | apply pw_below_drewN | apply below_drew1) | exact HB.out))) : w.heap.size ≤ gb248)); have n3_ := Aside0.mk ((by rw [hg]; exact (below_size (by repeat (first | (with_reducible first | exact HB.out | apply below_alloc | apply pw_below_drewN | apply below_drew1) | exact HB.out))) : w.heap.size ≤ gb248)); clear HB; have HB := n0_; have BK248 := n1_; have GW248 := n2_; have GE248 := n3_; clear n0_ n1_ n2_ n3_; clear hb hbox hg) | ((with_reducible refine gate_dst (N := 3) rfl ?_); refine box_event ?hg (N := 3) ?hd (cs := #[.int .i64 a1_0, .int .i64 a1_1, .int .i64 a1_2, .int .i64 a1_3, .int .i64 a1_4, .int .i64 a1_5, .int .i64 a1_6, .slice A1_7 l1_7.length c1_7]) (t := 24) ?hr ?_; (case hd => rfl); (case hg => rfl); (case hr => first | (go_simp; done) | (go_simp; rfl)); intro gb249 hg w22 hbox hb; have n0_ := Aside0.mk (blk_below (g := gb248) (o := .cells #[.int .i64 a0_0, .int .i64 a0_1, .int .i64 a0_2, .int .i64 a0_3, .int .i64 a0_4, .int .i64 a0_5, .int .i64 a0_6, .slice A0_7 l0_7.length c0_7] 24 (0, 0)) (by (with_reducible repeat (first | refine blk_drewN ?_ _ | refine blk_drew ?_ | refine blk_alloc ?_ _)); exact BK248.out) hb); have n1_ := Aside0.mk (below_step (by repeat (first | (with_reducible first | exact HB.out | apply below_alloc | apply pw_below_drewN | apply below_drew1 | refine below_set ?_ GE248.out) | exact HB.out)) hb); have n2_ := Aside0.mk (hbox); have n3_ := Aside0.mk ((by rw [hg]; exact (below_size (by repeat (first | (with_reducible first | exact HB.out | apply below_alloc | apply pw_below_drewN | apply below_drew1 | refine below_set ?_ GE248.out) | exact HB.out))) : w.heap.size ≤ gb249)); have n4_ := Aside0.mk ((by rw [hg]; exact (below_size (by repeat (first | (with_reducible first | exact HB.out | apply below_alloc | apply pw_below_drewN | apply below_drew1 | refine below_set ?_ GE248.out) | exact HB.out))) : w.heap.size ≤ gb249)); have n5_ := Aside0.mk ((by rw [hg]; exact Nat.ne_of_lt (blk_lt (g := gb248) (o := .cells #[.int .i64 a0_0, .int .i64 a0_1, .int .i64 a0_2, .int .i64 a0_3, .int .i64 a0_4, .int .i64 a0_5, .int .i64 a0_6, .slice A0_7 l0_7.length c0_7] 24 (0, 0)) (by (with_reducible repeat (first | refine blk_drewN ?_ _ | refine blk_drew ?_ | refine blk_alloc ?_ _)); exact BK248.out)) : gb248 ≠ gb249)); have n6_ := Aside0.mk ((by rw [hg]; exact Nat.ne_of_gt (blk_lt (g := gb248) (o := .cells #[.int .i64 a0_0, .int .i64 a0_1, .int .i64 a0_2, .int .i64 a0_3, .int .i64 a0_4, .int .i64 a0_5, .int .i64 a0_6, .slice A0_7 l0_7.length c0_7] 24 (0, 0)) (by (with_reducible repeat (first | refine blk_drewN ?_ _ | refine blk_drew ?_ | refine blk_alloc ?_ _)); exact BK248.out)) : gb249 ≠ gb248)); clear BK248; clear HB; have BK248 := n0_; have HB := n1_; have BK249 := n2_; have GW249 := n3_; have GE249 := n4_; have NB248_249 := n5_; have NB249_248 := n6_; clear n0_ n1_ n2_ n3_ n4_ n5_ n6_; clear hb hbox hg; have hnb23 := NB248_249.out; have hnc23 := NB249_248.out; have hcz24_0 : w22.cell? ⟨gb248, 0, none⟩ = some (.int .i64 a0_0) := (blk_cell BK248.out 0).trans rfl; have hcz24_1 : w22.cell? ⟨gb248, 1, none⟩ = some (.int .i64 a0_1) := (blk_cell BK248.out 1).trans rfl; have hcz24_2 : w22.cell? ⟨gb248, 2, none⟩ = some (.int .i64 a0_2) := (blk_cell BK248.out 2).trans rfl; have hcz24_3 : w22.cell? ⟨gb248, 3, none⟩ = some (.int .i64 a0_3) := (blk_cell BK248.out 3).trans rfl; have hcz24_4 : w22.cell? ⟨gb248, 4, none⟩ = some (.int .i64 a0_4) := (blk_cell BK248.out 4).trans rfl; have hcz24_5 : w22.cell? ⟨gb248, 5, none⟩ = some (.int .i64 a0_5) := (blk_cell BK248.out 5).trans rfl; have hcz24_6 : w22.cell? ⟨gb248, 6, none⟩ = some (.int .i64 a0_6) := (blk_cell BK248.out 6).trans rfl; have hcz24_7 : w22.cell? ⟨gb248, 7, none⟩ = some (.slice A0_7 l0_7.length c0_7) := (blk_cell BK248.out 7).trans rfl; have hfz24_0 := blk_frozen BK248.out 0; have hfz24_1 := blk_frozen BK248.out 1; have hfz24_2 := blk_frozen BK248.out 2; have hfz24_3 := blk_frozen BK248.out 3; have hfz24_4 := blk_frozen BK248.out 4; have hfz24_5 := blk_frozen BK248.out 5; have hfz24_6 := blk_frozen BK248.out 6; have hfz24_7 := blk_frozen BK248.out 7; have hcz25_0 : w22.cell? ⟨gb249, 0, none⟩ = some (.int .i64 a1_0) := (blk_cell BK249.out 0).trans rfl; have hcz25_1 : w22.cell? ⟨gb249, 1, none⟩ = some (.int .i64 a1_1) := (blk_cell BK249.out 1).trans rfl; have hcz25_2 : w22.cell? ⟨gb249, 2, none⟩ = some (.int .i64 a1_2) := (blk_cell BK249.out 2).trans rfl; have hcz25_3 : w22.cell? ⟨gb249, 3, none⟩ = some (.int .i64 a1_3) := (blk_cell BK249.out 3).trans rfl; have hcz25_4 : w22.cell? ⟨gb249, 4, none⟩ = some (.int .i64 a1_4) := (blk_cell BK249.out 4).trans rfl; have hcz25_5 : w22.cell? ⟨gb249, 5, none⟩ = some (.int .i64 a1_5) := (blk_cell BK249.out 5).trans rfl; have hcz25_6 : w22.cell? ⟨gb249, 6, none⟩ = some (.int .i64 a1_6) := (blk_cell BK249.out 6).trans rfl; have hcz25_7 : w22.cell? ⟨gb249, 7, none⟩ = some (.slice A1_7 l1_7.length c1_7) := (blk_cell BK249.out 7).trans rfl; have hfz25_0 := blk_frozen BK249.out 0; have hfz25_1 := blk_frozen BK249.out 1; have hfz25_2 := blk_frozen BK249.out 2; have hfz25_3 := blk_frozen BK249.out 3; have hfz25_4 := blk_frozen BK249.out 4; have hfz25_5 := blk_frozen BK249.out 5; have hfz25_6 := blk_frozen BK249.out 6; have hfz25_7 := blk_frozen BK249.out 7))
              go_ret
              exact ⟨by first | rfl | (simp [errW_none, errW_some] <;> rfl) | (simp [*, errW_none, errW_some] <;> rfl), by repeat (first | (with_reducible first | exact HB.out | apply below_alloc | apply pw_below_drewN | apply below_drew1 | refine below_set ?_ GE248.out | refine below_set ?_ GE249.out) | exact HB.out)⟩
          · rw [if_neg c7] at H
            have c7b0 : (a0_4 == a1_4) = false := beq_eq_false_iff_ne.mpr c7
            have c7b1 : (a0_4 != a1_4) = true := bne_iff_ne.mpr c7
            obtain rfl := Option.some.inj H
            go_enter Tryd.func39, Tryd.ntmps39
            go_wp2_with (first | ((with_reducible refine gate_dst (N := 2) rfl ?_); refine box_event ?hg (N := 2) ?hd (cs := #[.int .i64 a0_0, .int .i64 a0_1, .int .i64 a0_2, .int .i64 a0_3, .int .i64 a0_4, .int .i64 a0_5, .int .i64 a0_6, .slice A0_7 l0_7.length c0_7]) (t := 24) ?hr ?_; (case hd => rfl); (case hg => rfl); (case hr => first | (go_simp; done) | (go_simp; rfl)); intro gb248 hg w26 hbox hb; have n0_ := Aside0.mk (below_step (by repeat (first | (with_reducible first | exact HB.out | apply below_alloc | apply pw_below_drewN | apply below_drew1) | exact HB.out)) hb); have n1_ := Aside0.mk (hbox); have n2_ := Aside0.mk ((by rw [hg]; exact (below_size (by repeat (first | (with_reducible first | exact HB.out | apply below_alloc | apply pw_below_drewN | apply below_drew1) | exact HB.out))) : w.heap.size ≤ gb248)); have n3_ := Aside0.mk ((by rw [hg]; exact (below_size (by repeat (first | (with_reducible first | exact HB.out | apply below_alloc | apply pw_below_drewN | apply below_drew1) | exact HB.out))) : w.heap.size ≤ gb248)); clear HB; have HB := n0_; have BK248 := n1_; have GW248 := n2_; have GE248 := n3_; clear n0_ n1_ n2_ n3_; clear hb hbox hg) | ((with_reducible refine gate_dst (N := 3) rfl ?_); refine box_event ?hg (N := 3) ?hd (cs := #[.int .i64 a1_0, .int .i64 a1_1, .int .i64 a1_2, .int .i64 a1_3, .int .i64 a1_4, .int .i64 a1_5, .int .i64 a1_6, .slice A1_7 l1_7.length c1_7]) (t := 24) ?hr ?_; (case hd => rfl); (case hg => rfl); (case hr => first | (go_simp; done) | (go_simp; rfl)); intro gb249 hg w27 hbox hb; have n0_ := Aside0.mk (blk_below (g := gb248) (o := .cells #[.int .i64 a0_0, .int .i64 a0_1, .int .i64 a0_2, .int .i64 a0_3, .int .i64 a0_4, .int .i64 a0_5, .int .i64 a0_6, .slice A0_7 l0_7.length c0_7] 24 (0, 0)) (by (with_reducible repeat (first | refine blk_drewN ?_ _ | refine blk_drew ?_ | refine blk_alloc ?_ _)); exact BK248.out) hb); have n1_ := Aside0.mk (below_step (by repeat (first | (with_reducible first | exact HB.out | apply below_alloc | apply pw_below_drewN | apply below_drew1 | refine below_set ?_ GE248.out) | exact HB.out)) hb); have n2_ := Aside0.mk (hbox); have n3_ := Aside0.mk ((by rw [hg]; exact (below_size (by repeat (first | (with_reducible first | exact HB.out | apply below_alloc | apply pw_below_drewN | apply below_drew1 | refine below_set ?_ GE248.out) | exact HB.out))) : w.heap.size ≤ gb249)); have n4_ := Aside0.mk ((by rw [hg]; exact (below_size (by repeat (first | (with_reducible first | exact HB.out | apply below_alloc | apply pw_below_drewN | apply below_drew1 | refine below_set ?_ GE248.out) | exact HB.out))) : w.heap.size ≤ gb249)); have n5_ := Aside0.mk ((by rw [hg]; exact Nat.ne_of_lt (blk_lt (g := gb248) (o := .cells #[.int .i64 a0_0, .int .i64 a0_1, .int .i64 a0_2, .int .i64 a0_3, .int .i64 a0_4, .int .i64 a0_5, .int .i64 a0_6, .slice A0_7 l0_7.length c0_7] 24 (0, 0)) (by (with_reducible repeat (first | refine blk_drewN ?_ _ | refine blk_drew ?_ | refine blk_alloc ?_ _)); exact BK248.out)) : gb248 ≠ gb249)); have n6_ := Aside0.mk ((by rw [hg]; exact Nat.ne_of_gt (blk_lt (g := gb248) (o := .cells #[.int .i64 a0_0, .int .i64 a0_1, .int .i64 a0_2, .int .i64 a0_3, .int .i64 a0_4, .int .i64 a0_5, .int .i64 a0_6, .slice A0_7 l0_7.length c0_7] 24 (0, 0)) (by (with_reducible repeat (first | refine blk_drewN ?_ _ | refine blk_drew ?_ | refine blk_alloc ?_ _)); exact BK248.out)) : gb249 ≠ gb248)); clear BK248; clear HB; have BK248 := n0_; have HB := n1_; have BK249 := n2_; have GW249 := n3_; have GE249 := n4_; have NB248_249 := n5_; have NB249_248 := n6_; clear n0_ n1_ n2_ n3_ n4_ n5_ n6_; clear hb hbox hg; have hnb28 := NB248_249.out; have hnc28 := NB249_248.out; have hcz29_0 : w27.cell? ⟨gb248, 0, none⟩ = some (.int .i64 a0_0) := (blk_cell BK248.out 0).trans rfl; have hcz29_1 : w27.cell? ⟨gb248, 1, none⟩ = some (.int .i64 a0_1) := (blk_cell BK248.out 1).trans rfl; have hcz29_2 : w27.cell? ⟨gb248, 2, none⟩ = some (.int .i64 a0_2) := (blk_cell BK248.out 2).trans rfl; have hcz29_3 : w27.cell? ⟨gb248, 3, none⟩ = some (.int .i64 a0_3) := (blk_cell BK248.out 3).trans rfl; have hcz29_4 : w27.cell? ⟨gb248, 4, none⟩ = some (.int .i64 a0_4) := (blk_cell BK248.out 4).trans rfl; have hcz29_5 : w27.cell? ⟨gb248, 5, none⟩ = some (.int .i64 a0_5) := (blk_cell BK248.out 5).trans rfl; have hcz29_6 : w27.cell? ⟨gb248, 6, none⟩ = some (.int .i64 a0_6) := (blk_cell BK248.out 6).trans rfl; have hcz29_7 : w27.cell? ⟨gb248, 7, none⟩ = some (.slice A0_7 l0_7.length c0_7) := (blk_cell BK248.out 7).trans rfl; have hfz29_0 := blk_frozen BK248.out 0; have hfz29_1 := blk_frozen BK248.out 1; have hfz29_2 := blk_frozen BK248.out 2; have hfz29_3 := blk_frozen BK248.out 3; have hfz29_4 := blk_frozen BK248.out 4; have hfz29_5 := blk_frozen BK248.out 5; have hfz29_6 := blk_frozen BK248.out 6; have hfz29_7 := blk_frozen BK248.out 7; have hcz30_0 : w27.cell? ⟨gb249, 0, none⟩ = some (.int .i64 a1_0) := (blk_cell BK249.out 0).trans rfl; have hcz30_1 : w27.cell? ⟨gb249, 1, none⟩ = some (.int .i64 a1_1) := (blk_cell BK249.out 1).trans rfl; have hcz30_2 : w27.cell? ⟨gb249, 2, none⟩ = some (.int .i64 a1_2) := (blk_cell BK249.out 2).trans rfl; have hcz30_3 : w27.cell? ⟨gb249, 3, none⟩ = some (.int .i64 a1_3) := (blk_cell BK249.out 3).trans rfl; have hcz30_4 : w27.cell? ⟨gb249, 4, none⟩ = some (.int .i64 a1_4) := (blk_cell BK249.out 4).trans rfl; have hcz30_5 : w27.cell? ⟨gb249, 5, none⟩ = some (.int .i64 a1_5) := (blk_cell BK249.out 5).trans rfl; have hcz30_6 : w27.cell? ⟨gb249, 6, none⟩ = some (.int .i64 a1_6) := (blk_cell BK249.out 6).trans rfl; have hcz30_7 : w27.cell? ⟨gb249, 7, none⟩ = some (.slice A1_7 l1_7.length c1_7) := (blk_cell BK249.out 7).trans rfl; have hfz30_0 := blk_frozen BK249.out 0; have hfz30_1 := blk_frozen BK249.out 1; have hfz30_2 := blk_frozen BK249.out 2; have hfz30_3 := blk_frozen BK249.out 3; have hfz30_4 := blk_frozen BK249.out 4; have hfz30_5 := blk_frozen BK249.out 5; have hfz30_6 := blk_frozen BK249.out 6; have hfz30_7 := blk_frozen BK249.out 7))
            go_ret
            exact ⟨by first | rfl | (simp [errW_none, errW_some] <;> rfl) | (simp [*, errW_none, errW_some] <;> rfl), by repeat (first | (with_reducible first | exact HB.out | apply below_alloc | apply pw_below_drewN | apply below_drew1 | refine below_set ?_ GE248.out | refine below_set ?_ GE249.out) | exact HB.out)⟩
        · rw [if_neg c6] at H
          have c6b0 : (a0_3 == a1_3) = false := beq_eq_false_iff_ne.mpr c6
          have c6b1 : (a0_3 != a1_3) = true := bne_iff_ne.mpr c6
          obtain rfl := Option.some.inj H
          go_enter Tryd.func39, Tryd.ntmps39
          go_wp2_with (first | ((with_reducible refine gate_dst (N := 2) rfl ?_); refine box_event ?hg (N := 2) ?hd (cs := #[.int .i64 a0_0, .int .i64 a0_1, .int .i64 a0_2, .int .i64 a0_3, .int .i64 a0_4, .int .i64 a0_5, .int .i64 a0_6, .slice A0_7 l0_7.length c0_7]) (t := 24) ?hr ?_; (case hd => rfl); (case hg => rfl); (case hr => first | (go_simp; done) | (go_simp; rfl)); intro gb248 hg w31 hbox hb; have n0_ := Aside0.mk (below_step (by repeat (first | (with_reducible first | exact HB.out | apply below_alloc | apply pw_below_drewN | apply below_drew1) | exact HB.out)) hb); have n1_ := Aside0.mk (hbox); have n2_ := Aside0.mk ((by rw [hg]; exact (below_size (by repeat (first | (with_reducible first | exact HB.out | apply below_alloc | apply pw_below_drewN | apply below_drew1) | exact HB.out))) : w.heap.size ≤ gb248)); have n3_ := Aside0.mk ((by rw [hg]; exact (below_size (by repeat (first | (with_reducible first | exact HB.out | apply below_alloc | apply pw_below_drewN | apply below_drew1) | exact HB.out))) : w.heap.size ≤ gb248)); clear HB; have HB := n0_; have BK248 := n1_; have GW248 := n2_; have GE248 := n3_; clear n0_ n1_ n2_ n3_; clear hb hbox hg) | ((with_reducible refine gate_dst (N := 3) rfl ?_); refine box_event ?hg (N := 3) ?hd (cs := #[.int .i64 a1_0, .int .i64 a1_1, .int .i64 a1_2, .int .i64 a1_3, .int .i64 a1_4, .int .i64 a1_5, .int .i64 a1_6, .slice A1_7 l1_7.length c1_7]) (t := 24) ?hr ?_; (case hd => rfl); (case hg => rfl); (case hr => first | (go_simp; done) | (go_simp; rfl)); intro gb249 hg w32 hbox hb; have n0_ := Aside0.mk (blk_below (g := gb248) (o := .cells #[.int .i64 a0_0, .int .i64 a0_1, .int .i64 a0_2, .int .i64 a0_3, .int .i64 a0_4, .int .i64 a0_5, .int .i64 a0_6, .slice A0_7 l0_7.length c0_7] 24 (0, 0)) (by (with_reducible repeat (first | refine blk_drewN ?_ _ | refine blk_drew ?_ | refine blk_alloc ?_ _)); exact BK248.out) hb); have n1_ := Aside0.mk (below_step (by repeat (first | (with_reducible first | exact HB.out | apply below_alloc | apply pw_below_drewN | apply below_drew1 | refine below_set ?_ GE248.out) | exact HB.out)) hb); have n2_ := Aside0.mk (hbox); have n3_ := Aside0.mk ((by rw [hg]; exact (below_size (by repeat (first | (with_reducible first | exact HB.out | apply below_alloc | apply pw_below_drewN | apply below_drew1 | refine below_set ?_ GE248.out) | exact HB.out))) : w.heap.size ≤ gb249)); have n4_ := Aside0.mk ((by rw [hg]; exact (below_size (by repeat (first | (with_reducible first | exact HB.out | apply below_alloc | apply pw_below_drewN | apply below_drew1 | refine below_set ?_ GE248.out) | exact HB.out))) : w.heap.size ≤ gb249)); have n5_ := Aside0.mk ((by rw [hg]; exact Nat.ne_of_lt (blk_lt (g := gb248) (o := .cells #[.int .i64 a0_0, .int .i64 a0_1, .int .i64 a0_2, .int .i64 a0_3, .int .i64 a0_4, .int .i64 a0_5, .int .i64 a0_6, .slice A0_7 l0_7.length c0_7] 24 (0, 0)) (by (with_reducible repeat (first | refine blk_drewN ?_ _ | refine blk_drew ?_ | refine blk_alloc ?_ _)); exact BK248.out)) : gb248 ≠ gb249)); have n6_ := Aside0.mk ((by rw [hg]; exact Nat.ne_of_gt (blk_lt (g := gb248) (o := .cells #[.int .i64 a0_0, .int .i64 a0_1, .int .i64 a0_2, .int .i64 a0_3, .int .i64 a0_4, .int .i64 a0_5, .int .i64 a0_6, .slice A0_7 l0_7.length c0_7] 24 (0, 0)) (by (with_reducible repeat (first | refine blk_drewN ?_ _ | refine blk_drew ?_ | refine blk_alloc ?_ _)); exact BK248.out)) : gb249 ≠ gb248)); clear BK248; clear HB; have BK248 := n0_; have HB := n1_; have BK249 := n2_; have GW249 := n3_; have GE249 := n4_; have NB248_249 := n5_; have NB249_248 := n6_; clear n0_ n1_ n2_ n3_ n4_ n5_ n6_; clear hb hbox hg; have hnb33 := NB248_249.out; have hnc33 := NB249_248.out; have hcz34_0 : w32.cell? ⟨gb248, 0, none⟩ = some (.int .i64 a0_0) := (blk_cell BK248.out 0).trans rfl; have hcz34_1 : w32.cell? ⟨gb248, 1, none⟩ = some (.int .i64 a0_1) := (blk_cell BK248.out 1).trans rfl; have hcz34_2 : w32.cell? ⟨gb248, 2, none⟩ = some (.int .i64 a0_2) := (blk_cell BK248.out 2).trans rfl; have hcz34_3 : w32.cell? ⟨gb248, 3, none⟩ = some (.int .i64 a0_3) := (blk_cell BK248.out 3).trans rfl; have hcz34_4 : w32.cell? ⟨gb248, 4, none⟩ = some (.int .i64 a0_4) := (blk_cell BK248.out 4).trans rfl; have hcz34_5 : w32.cell? ⟨gb248, 5, none⟩ = some (.int .i64 a0_5) := (blk_cell BK248.out 5).trans rfl; have hcz34_6 : w32.cell? ⟨gb248, 6, none⟩ = some (.int .i64 a0_6) := (blk_cell BK248.out 6).trans rfl; have hcz34_7 : w32.cell? ⟨gb248, 7, none⟩ = some (.slice A0_7 l0_7.length c0_7) := (blk_cell BK248.out 7).trans rfl; have hfz34_0 := blk_frozen BK248.out 0; have hfz34_1 := blk_frozen BK248.out 1; have hfz34_2 := blk_frozen BK248.out 2; have hfz34_3 := blk_frozen BK248.out 3; have hfz34_4 := blk_frozen BK248.out 4; have hfz34_5 := blk_frozen BK248.out 5; have hfz34_6 := blk_frozen BK248.out 6; have hfz34_7 := blk_frozen BK248.out 7; have hcz35_0 : w32.cell? ⟨gb249, 0, none⟩ = some (.int .i64 a1_0) := (blk_cell BK249.out 0).trans rfl; have hcz35_1 : w32.cell? ⟨gb249, 1, none⟩ = some (.int .i64 a1_1) := (blk_cell BK249.out 1).trans rfl; have hcz35_2 : w32.cell? ⟨gb249, 2, none⟩ = some (.int .i64 a1_2) := (blk_cell BK249.out 2).trans rfl; have hcz35_3 : w32.cell? ⟨gb249, 3, none⟩ = some (.int .i64 a1_3) := (blk_cell BK249.out 3).trans rfl; have hcz35_4 : w32.cell? ⟨gb249, 4, none⟩ = some (.int .i64 a1_4) := (blk_cell BK249.out 4).trans rfl; have hcz35_5 : w32.cell? ⟨gb249, 5, none⟩ = some (.int .i64 a1_5) := (blk_cell BK249.out 5).trans rfl; have hcz35_6 : w32.cell? ⟨gb249, 6, none⟩ = some (.int .i64 a1_6) := (blk_cell BK249.out 6).trans rfl; have hcz35_7 : w32.cell? ⟨gb249, 7, none⟩ = some (.slice A1_7 l1_7.length c1_7) := (blk_cell BK249.out 7).trans rfl; have hfz35_0 := blk_frozen BK249.out 0; have hfz35_1 := blk_frozen BK249.out 1; have hfz35_2 := blk_frozen BK249.out 2; have hfz35_3 := blk_frozen BK249.out 3; have hfz35_4 := blk_frozen BK249.out 4; have hfz35_5 := blk_frozen BK249.out 5; have hfz35_6 := blk_frozen BK249.out 6; have hfz35_7 := blk_frozen BK249.out 7))
          go_ret
          exact ⟨by first | rfl | (simp [errW_none, errW_some] <;> rfl) | (simp [*, errW_none, errW_some] <;> rfl), by repeat (first | (with_reducible first | exact HB.out | apply below_alloc | apply pw_below_drewN | apply below_drew1 | refine below_set ?_ GE248.out | refine below_set ?_ GE249.out) | exact HB.out)⟩
      · rw [if_neg c5] at H
        have c5b0 : (a0_2 == a1_2) = false := beq_eq_false_iff_ne.mpr c5
        have c5b1 : (a0_2 != a1_2) = true := bne_iff_ne.mpr c5
        obtain rfl := Option.some.inj H
        go_enter Tryd.func39, Tryd.ntmps39
        go_wp2_with (first | ((with_reducible refine gate_dst (N := 2) rfl ?_); refine box_event ?hg (N := 2) ?hd (cs := #[.int .i64 a0_0, .int .i64 a0_1, .int .i64 a0_2, .int .i64 a0_3, .int .i64 a0_4, .int .i64 a0_5, .int .i64 a0_6, .slice A0_7 l0_7.length c0_7]) (t := 24) ?hr ?_; (case hd => rfl); (case hg => rfl); (case hr => first | (go_simp; done) | (go_simp; rfl)); intro gb248 hg w36 hbox hb; have n0_ := Aside0.mk (below_step (by repeat (first | (with_reducible first | exact HB.out | apply below_alloc | apply pw_below_drewN | apply below_drew1) | exact HB.out)) hb); have n1_ := Aside0.mk (hbox); have n2_ := Aside0.mk ((by rw [hg]; exact (below_size (by repeat (first | (with_reducible first | exact HB.out | apply below_alloc | apply pw_below_drewN | apply below_drew1) | exact HB.out))) : w.heap.size ≤ gb248)); have n3_ := Aside0.mk ((by rw [hg]; exact (below_size (by repeat (first | (with_reducible first | exact HB.out | apply below_alloc | apply pw_below_drewN | apply below_drew1) | exact HB.out))) : w.heap.size ≤ gb248)); clear HB; have HB := n0_; have BK248 := n1_; have GW248 := n2_; have GE248 := n3_; clear n0_ n1_ n2_ n3_; clear hb hbox hg) | ((with_reducible refine gate_dst (N := 3) rfl ?_); refine box_event ?hg (N := 3) ?hd (cs := #[.int .i64 a1_0, .int .i64 a1_1, .int .i64 a1_2, .int .i64 a1_3, .int .i64 a1_4, .int .i64 a1_5, .int .i64 a1_6, .slice A1_7 l1_7.length c1_7]) (t := 24) ?hr ?_; (case hd => rfl); (case hg => rfl); (case hr => first | (go_simp; done) | (go_simp; rfl)); intro gb249 hg w37 hbox hb; have n0_ := Aside0.mk (blk_below (g := gb248) (o := .cells #[.int .i64 a0_0, .int .i64 a0_1, .int .i64 a0_2, .int .i64 a0_3, .int .i64 a0_4, .int .i64 a0_5, .int .i64 a0_6, .slice A0_7 l0_7.length c0_7] 24 (0, 0)) (by (with_reducible repeat (first | refine blk_drewN ?_ _ | refine blk_drew ?_ | refine blk_alloc ?_ _)); exact BK248.out) hb); have n1_ := Aside0.mk (below_step (by repeat (first | (with_reducible first | exact HB.out | apply below_alloc | apply pw_below_drewN | apply below_drew1 | refine below_set ?_ GE248.out) | exact HB.out)) hb); have n2_ := Aside0.mk (hbox); have n3_ := Aside0.mk ((by rw [hg]; exact (below_size (by repeat (first | (with_reducible first | exact HB.out | apply below_alloc | apply pw_below_drewN | apply below_drew1 | refine below_set ?_ GE248.out) | exact HB.out))) : w.heap.size ≤ gb249)); have n4_ := Aside0.mk ((by rw [hg]; exact (below_size (by repeat (first | (with_reducible first | exact HB.out | apply below_alloc | apply pw_below_drewN | apply below_drew1 | refine below_set ?_ GE248.out) | exact HB.out))) : w.heap.size ≤ gb249)); have n5_ := Aside0.mk ((by rw [hg]; exact Nat.ne_of_lt (blk_lt (g := gb248) (o := .cells #[.int .i64 a0_0, .int .i64 a0_1, .int .i64 a0_2, .int .i64 a0_3, .int .i64 a0_4, .int .i64 a0_5, .int .i64 a0_6, .slice A0_7 l0_7.length c0_7] 24 (0, 0)) (by (with_reducible repeat (first | refine blk_drewN ?_ _ | refine blk_drew ?_ | refine blk_alloc ?_ _)); exact BK248.out)) : gb248 ≠ gb249)); have n6_ := Aside0.mk ((by rw [hg]; exact Nat.ne_of_gt (blk_lt (g := gb248) (o := .cells #[.int .i64 a0_0, .int .i64 a0_1, .int .i64 a0_2, .int .i64 a0_3, .int .i64 a0_4, .int .i64 a0_5, .int .i64 a0_6, .slice A0_7 l0_7.length c0_7] 24 (0, 0)) (by (with_reducible repeat (first | refine blk_drewN ?_ _ | refine blk_drew ?_ | refine blk_alloc ?_ _)); exact BK248.out)) : gb249 ≠ gb248)); clear BK248; clear HB; have BK248 := n0_; have HB := n1_; have BK249 := n2_; have GW249 := n3_; have GE249 := n4_; have NB248_249 := n5_; have NB249_248 := n6_; clear n0_ n1_ n2_ n3_ n4_ n5_ n6_; clear hb hbox hg; have hnb38 := NB248_249.out; have hnc38 := NB249_248.out; have hcz39_0 : w37.cell? ⟨gb248, 0, none⟩ = some (.int .i64 a0_0) := (blk_cell BK248.out 0).trans rfl; have hcz39_1 : w37.cell? ⟨gb248, 1, none⟩ = some (.int .i64 a0_1) := (blk_cell BK248.out 1).trans rfl; have hcz39_2 : w37.cell? ⟨gb248, 2, none⟩ = some (.int .i64 a0_2) := (blk_cell BK248.out 2).trans rfl; have hcz39_3 : w37.cell? ⟨gb248, 3, none⟩ = some (.int .i64 a0_3) := (blk_cell BK248.out 3).trans rfl; have hcz39_4 : w37.cell? ⟨gb248, 4, none⟩ = some (.int .i64 a0_4) := (blk_cell BK248.out 4).trans rfl; have hcz39_5 : w37.cell? ⟨gb248, 5, none⟩ = some (.int .i64 a0_5) := (blk_cell BK248.out 5).trans rfl; have hcz39_6 : w37.cell? ⟨gb248, 6, none⟩ = some (.int .i64 a0_6) := (blk_cell BK248.out 6).trans rfl; have hcz39_7 : w37.cell? ⟨gb248, 7, none⟩ = some (.slice A0_7 l0_7.length c0_7) := (blk_cell BK248.out 7).trans rfl; have hfz39_0 := blk_frozen BK248.out 0; have hfz39_1 := blk_frozen BK248.out 1; have hfz39_2 := blk_frozen BK248.out 2; have hfz39_3 := blk_frozen BK248.out 3; have hfz39_4 := blk_frozen BK248.out 4; have hfz39_5 := blk_frozen BK248.out 5; have hfz39_6 := blk_frozen BK248.out 6; have hfz39_7 := blk_frozen BK248.out 7; have hcz40_0 : w37.cell? ⟨gb249, 0, none⟩ = some (.int .i64 a1_0) := (blk_cell BK249.out 0).trans rfl; have hcz40_1 : w37.cell? ⟨gb249, 1, none⟩ = some (.int .i64 a1_1) := (blk_cell BK249.out 1).trans rfl; have hcz40_2 : w37.cell? ⟨gb249, 2, none⟩ = some (.int .i64 a1_2) := (blk_cell BK249.out 2).trans rfl; have hcz40_3 : w37.cell? ⟨gb249, 3, none⟩ = some (.int .i64 a1_3) := (blk_cell BK249.out 3).trans rfl; have hcz40_4 : w37.cell? ⟨gb249, 4, none⟩ = some (.int .i64 a1_4) := (blk_cell BK249.out 4).trans rfl; have hcz40_5 : w37.cell? ⟨gb249, 5, none⟩ = some (.int .i64 a1_5) := (blk_cell BK249.out 5).trans rfl; have hcz40_6 : w37.cell? ⟨gb249, 6, none⟩ = some (.int .i64 a1_6) := (blk_cell BK249.out 6).trans rfl; have hcz40_7 : w37.cell? ⟨gb249, 7, none⟩ = some (.slice A1_7 l1_7.length c1_7) := (blk_cell BK249.out 7).trans rfl; have hfz40_0 := blk_frozen BK249.out 0; have hfz40_1 := blk_frozen BK249.out 1; have hfz40_2 := blk_frozen BK249.out 2; have hfz40_3 := blk_frozen BK249.out 3; have hfz40_4 := blk_frozen BK249.out 4; have hfz40_5 := blk_frozen BK249.out 5; have hfz40_6 := blk_frozen BK249.out 6; have hfz40_7 := blk_frozen BK249.out 7))
        go_ret
        exact ⟨by first | rfl | (simp [errW_none, errW_some] <;> rfl) | (simp [*, errW_none, errW_some] <;> rfl), by repeat (first | (with_reducible first | exact HB.out | apply below_alloc | apply pw_below_drewN | apply below_drew1 | refine below_set ?_ GE248.out | refine below_set ?_ GE249.out) | exact HB.out)⟩
    · rw [if_neg c4] at H
      have c4b0 : (a0_1 == a1_1) = false := beq_eq_false_iff_ne.mpr c4
      have c4b1 : (a0_1 != a1_1) = true := bne_iff_ne.mpr c4
      obtain rfl := Option.some.inj H
      go_enter Tryd.func39, Tryd.ntmps39
      go_wp2_with (first | ((with_reducible refine gate_dst (N := 2) rfl ?_); refine box_event ?hg (N := 2) ?hd (cs := #[.int .i64 a0_0, .int .i64 a0_1, .int .i64 a0_2, .int .i64 a0_3, .int .i64 a0_4, .int .i64 a0_5, .int .i64 a0_6, .slice A0_7 l0_7.length c0_7]) (t := 24) ?hr ?_; (case hd => rfl); (case hg => rfl); (case hr => first | (go_simp; done) | (go_simp; rfl)); intro gb248 hg w41 hbox hb; have n0_ := Aside0.mk (below_step (by repeat (first | (with_reducible first | exact HB.out | apply below_alloc | apply pw_below_drewN | apply below_drew1) | exact HB.out)) hb); have n1_ := Aside0.mk (hbox); have n2_ := Aside0.mk ((by rw [hg]; exact (below_size (by repeat (first | (with_reducible first | exact HB.out | apply below_alloc | apply pw_below_drewN | apply below_drew1) | exact HB.out))) : w.heap.size ≤ gb248)); have n3_ := Aside0.mk ((by rw [hg]; exact (below_size (by repeat (first | (with_reducible first | exact HB.out | apply below_alloc | apply pw_below_drewN | apply below_drew1) | exact HB.out))) : w.heap.size ≤ gb248)); clear HB; have HB := n0_; have BK248 := n1_; have GW248 := n2_; have GE248 := n3_; clear n0_ n1_ n2_ n3_; clear hb hbox hg) | ((with_reducible refine gate_dst (N := 3) rfl ?_); refine box_event ?hg (N := 3) ?hd (cs := #[.int .i64 a1_0, .int .i64 a1_1, .int .i64 a1_2, .int .i64 a1_3, .int .i64 a1_4, .int .i64 a1_5, .int .i64 a1_6, .slice A1_7 l1_7.length c1_7]) (t := 24) ?hr ?_; (case hd => rfl); (case hg => rfl); (case hr => first | (go_simp; done) | (go_simp; rfl)); intro gb249 hg w42 hbox hb; have n0_ := Aside0.mk (blk_below (g := gb248) (o := .cells #[.int .i64 a0_0, .int .i64 a0_1, .int .i64 a0_2, .int .i64 a0_3, .int .i64 a0_4, .int .i64 a0_5, .int .i64 a0_6, .slice A0_7 l0_7.length c0_7] 24 (0, 0)) (by (with_reducible repeat (first | refine blk_drewN ?_ _ | refine blk_drew ?_ | refine blk_alloc ?_ _)); exact BK248.out) hb); have n1_ := Aside0.mk (below_step (by repeat (first | (with_reducible first | exact HB.out | apply below_alloc | apply pw_below_drewN | apply below_drew1 | refine below_set ?_ GE248.out) | exact HB.out)) hb); have n2_ := Aside0.mk (hbox); have n3_ := Aside0.mk ((by rw [hg]; exact (below_size (by repeat (first | (with_reducible first | exact HB.out | apply below_alloc | apply pw_below_drewN | apply below_drew1 | refine below_set ?_ GE248.out) | exact HB.out))) : w.heap.size ≤ gb249)); have n4_ := Aside0.mk ((by rw [hg]; exact (below_size (by repeat (first | (with_reducible first | exact HB.out | apply below_alloc | apply pw_below_drewN | apply below_drew1 | refine below_set ?_ GE248.out) | exact HB.out))) : w.heap.size ≤ gb249)); have n5_ := Aside0.mk ((by rw [hg]; exact Nat.ne_of_lt (blk_lt (g := gb248) (o := .cells #[.int .i64 a0_0, .int .i64 a0_1, .int .i64 a0_2, .int .i64 a0_3, .int .i64 a0_4, .int .i64 a0_5, .int .i64 a0_6, .slice A0_7 l0_7.length c0_7] 24 (0, 0)) (by (with_reducible repeat (first | refine blk_drewN ?_ _ | refine blk_drew ?_ | refine blk_alloc ?_ _)); exact BK248.out)) : gb248 ≠ gb249)); have n6_ := Aside0.mk ((by rw [hg]; exact Nat.ne_of_gt (blk_lt (g := gb248) (o := .cells #[.int .i64 a0_0, .int .i64 a0_1, .int .i64 a0_2, .int .i64 a0_3, .int .i64 a0_4, .int .i64 a0_5, .int .i64 a0_6, .slice A0_7 l0_7.length c0_7] 24 (0, 0)) (by (with_reducible repeat (first | refine blk_drewN ?_ _ | refine blk_drew ?_ | refine blk_alloc ?_ _)); exact BK248.out)) : gb249 ≠ gb248)); clear BK248; clear HB; have BK248 := n0_; have HB := n1_; have BK249 := n2_; have GW249 := n3_; have GE249 := n4_; have NB248_249 := n5_; have NB249_248 := n6_; clear n0_ n1_ n2_ n3_ n4_ n5_ n6_; clear hb hbox hg; have hnb43 := NB248_249.out; have hnc43 := NB249_248.out; have hcz44_0 : w42.cell? ⟨gb248, 0, none⟩ = some (.int .i64 a0_0) := (blk_cell BK248.out 0).trans rfl; have hcz44_1 : w42.cell? ⟨gb248, 1, none⟩ = some (.int .i64 a0_1) := (blk_cell BK248.out 1).trans rfl; have hcz44_2 : w42.cell? ⟨gb248, 2, none⟩ = some (.int .i64 a0_2) := (blk_cell BK248.out 2).trans rfl; have hcz44_3 : w42.cell? ⟨gb248, 3, none⟩ = some (.int .i64 a0_3) := (blk_cell BK248.out 3).trans rfl; have hcz44_4 : w42.cell? ⟨gb248, 4, none⟩ = some (.int .i64 a0_4) := (blk_cell BK248.out 4).trans rfl; have hcz44_5 : w42.cell? ⟨gb248, 5, none⟩ = some (.int .i64 a0_5) := (blk_cell BK248.out 5).trans rfl; have hcz44_6 : w42.cell? ⟨gb248, 6, none⟩ = some (.int .i64 a0_6) := (blk_cell BK248.out 6).trans rfl; have hcz44_7 : w42.cell? ⟨gb248, 7, none⟩ = some (.slice A0_7 l0_7.length c0_7) := (blk_cell BK248.out 7).trans rfl; have hfz44_0 := blk_frozen BK248.out 0; have hfz44_1 := blk_frozen BK248.out 1; have hfz44_2 := blk_frozen BK248.out 2; have hfz44_3 := blk_frozen BK248.out 3; have hfz44_4 := blk_frozen BK248.out 4; have hfz44_5 := blk_frozen BK248.out 5; have hfz44_6 := blk_frozen BK248.out 6; have hfz44_7 := blk_frozen BK248.out 7; have hcz45_0 : w42.cell? ⟨gb249, 0, none⟩ = some (.int .i64 a1_0) := (blk_cell BK249.out 0).trans rfl; have hcz45_1 : w42.cell? ⟨gb249, 1, none⟩ = some (.int .i64 a1_1) := (blk_cell BK249.out 1).trans rfl; have hcz45_2 : w42.cell? ⟨gb249, 2, none⟩ = some (.int .i64 a1_2) := (blk_cell BK249.out 2).trans rfl; have hcz45_3 : w42.cell? ⟨gb249, 3, none⟩ = some (.int .i64 a1_3) := (blk_cell BK249.out 3).trans rfl; have hcz45_4 : w42.cell? ⟨gb249, 4, none⟩ = some (.int .i64 a1_4) := (blk_cell BK249.out 4).trans rfl; have hcz45_5 : w42.cell? ⟨gb249, 5, none⟩ = some (.int .i64 a1_5) := (blk_cell BK249.out 5).trans rfl; have hcz45_6 : w42.cell? ⟨gb249, 6, none⟩ = some (.int .i64 a1_6) := (blk_cell BK249.out 6).trans rfl; have hcz45_7 : w42.cell? ⟨gb249, 7, none⟩ = some (.slice A1_7 l1_7.length c1_7) := (blk_cell BK249.out 7).trans rfl; have hfz45_0 := blk_frozen BK249.out 0; have hfz45_1 := blk_frozen BK249.out 1; have hfz45_2 := blk_frozen BK249.out 2; have hfz45_3 := blk_frozen BK249.out 3; have hfz45_4 := blk_frozen BK249.out 4; have hfz45_5 := blk_frozen BK249.out 5; have hfz45_6 := blk_frozen BK249.out 6; have hfz45_7 := blk_frozen BK249.out 7))
      go_ret
      exact ⟨by first | rfl | (simp [errW_none, errW_some] <;> rfl) | (simp [*, errW_none, errW_some] <;> rfl), by repeat (first | (with_reducible first | exact HB.out | apply below_alloc | apply pw_below_drewN | apply below_drew1 | refine below_set ?_ GE248.out | refine below_set ?_ GE249.out) | exact HB.out)⟩
  · rw [if_neg c3] at H
    have c3b0 : (a0_0 == a1_0) = false := beq_eq_false_iff_ne.mpr c3
    have c3b1 : (a0_0 != a1_0) = true := bne_iff_ne.mpr c3
    obtain rfl := Option.some.inj H
    go_enter Tryd.func39, Tryd.ntmps39
    go_wp2_with (first | ((with_reducible refine gate_dst (N := 2) rfl ?_); refine box_event ?hg (N := 2) ?hd (cs := #[.int .i64 a0_0, .int .i64 a0_1, .int .i64 a0_2, .int .i64 a0_3, .int .i64 a0_4, .int .i64 a0_5, .int .i64 a0_6, .slice A0_7 l0_7.length c0_7]) (t := 24) ?hr ?_; (case hd => rfl); (case hg => rfl); (case hr => first | (go_simp; done) | (go_simp; rfl)); intro gb248 hg w46 hbox hb; have n0_ := Aside0.mk (below_step (by repeat (first | (with_reducible first | exact HB.out | apply below_alloc | apply pw_below_drewN | apply below_drew1) | exact HB.out)) hb); have n1_ := Aside0.mk (hbox); have n2_ := Aside0.mk ((by rw [hg]; exact (below_size (by repeat (first | (with_reducible first | exact HB.out | apply below_alloc | apply pw_below_drewN | apply below_drew1) | exact HB.out))) : w.heap.size ≤ gb248)); have n3_ := Aside0.mk ((by rw [hg]; exact (below_size (by repeat (first | (with_reducible first | exact HB.out | apply below_alloc | apply pw_below_drewN | apply below_drew1) | exact HB.out))) : w.heap.size ≤ gb248)); clear HB; have HB := n0_; have BK248 := n1_; have GW248 := n2_; have GE248 := n3_; clear n0_ n1_ n2_ n3_; clear hb hbox hg) | ((with_reducible refine gate_dst (N := 3) rfl ?_); refine box_event ?hg (N := 3) ?hd (cs := #[.int .i64 a1_0, .int .i64 a1_1, .int .i64 a1_2, .int .i64 a1_3, .int .i64 a1_4, .int .i64 a1_5, .int .i64 a1_6, .slice A1_7 l1_7.length c1_7]) (t := 24) ?hr ?_; (case hd => rfl); (case hg => rfl); (case hr => first | (go_simp; done) | (go_simp; rfl)); intro gb249 hg w47 hbox hb; have n0_ := Aside0.mk (blk_below (g := gb248) (o := .cells #[.int .i64 a0_0, .int .i64 a0_1, .int .i64 a0_2, .int .i64 a0_3, .int .i64 a0_4, .int .i64 a0_5, .int .i64 a0_6, .slice A0_7 l0_7.length c0_7] 24 (0, 0)) (by (with_reducible repeat (first | refine blk_drewN ?_ _ | refine blk_drew ?_ | refine blk_alloc ?_ _)); exact BK248.out) hb); have n1_ := Aside0.mk (below_step (by repeat (first | (with_reducible first | exact HB.out | apply below_alloc | apply pw_below_drewN | apply below_drew1 | refine below_set ?_ GE248.out) | exact HB.out)) hb); have n2_ := Aside0.mk (hbox); have n3_ := Aside0.mk ((by rw [hg]; exact (below_size (by repeat (first | (with_reducible first | exact HB.out | apply below_alloc | apply pw_below_drewN | apply below_drew1 | refine below_set ?_ GE248.out) | exact HB.out))) : w.heap.size ≤ gb249)); have n4_ := Aside0.mk ((by rw [hg]; exact (below_size (by repeat (first | (with_reducible first | exact HB.out | apply below_alloc | apply pw_below_drewN | apply below_drew1 | refine below_set ?_ GE248.out) | exact HB.out))) : w.heap.size ≤ gb249)); have n5_ := Aside0.mk ((by rw [hg]; exact Nat.ne_of_lt (blk_lt (g := gb248) (o := .cells #[.int .i64 a0_0, .int .i64 a0_1, .int .i64 a0_2, .int .i64 a0_3, .int .i64 a0_4, .int .i64 a0_5, .int .i64 a0_6, .slice A0_7 l0_7.length c0_7] 24 (0, 0)) (by (with_reducible repeat (first | refine blk_drewN ?_ _ | refine blk_drew ?_ | refine blk_alloc ?_ _)); exact BK248.out)) : gb248 ≠ gb249)); have n6_ := Aside0.mk ((by rw [hg]; exact Nat.ne_of_gt (blk_lt (g := gb248) (o := .cells #[.int .i64 a0_0, .int .i64 a0_1, .int .i64 a0_2, .int .i64 a0_3, .int .i64 a0_4, .int .i64 a0_5, .int .i64 a0_6, .slice A0_7 l0_7.length c0_7] 24 (0, 0)) (by (with_reducible repeat (first | refine blk_drewN ?_ _ | refine blk_drew ?_ | refine blk_alloc ?_ _)); exact BK248.out)) : gb249 ≠ gb248)); clear BK248; clear HB; have BK248 := n0_; have HB := n1_; have BK249 := n2_; have GW249 := n3_; have GE249 := n4_; have NB248_249 := n5_; have NB249_248 := n6_; clear n0_ n1_ n2_ n3_ n4_ n5_ n6_; clear hb hbox hg; have hnb48 := NB248_249.out; have hnc48 := NB249_248.out; have hcz49_0 : w47.cell? ⟨gb248, 0, none⟩ = some (.int .i64 a0_0) := (blk_cell BK248.out 0).trans rfl; have hcz49_1 : w47.cell? ⟨gb248, 1, none⟩ = some (.int .i64 a0_1) := (blk_cell BK248.out 1).trans rfl; have hcz49_2 : w47.cell? ⟨gb248, 2, none⟩ = some (.int .i64 a0_2) := (blk_cell BK248.out 2).trans rfl; have hcz49_3 : w47.cell? ⟨gb248, 3, none⟩ = some (.int .i64 a0_3) := (blk_cell BK248.out 3).trans rfl; have hcz49_4 : w47.cell? ⟨gb248, 4, none⟩ = some (.int .i64 a0_4) := (blk_cell BK248.out 4).trans rfl; have hcz49_5 : w47.cell? ⟨gb248, 5, none⟩ = some (.int .i64 a0_5) := (blk_cell BK248.out 5).trans rfl; have hcz49_6 : w47.cell? ⟨gb248, 6, none⟩ = some (.int .i64 a0_6) := (blk_cell BK248.out 6).trans rfl; have hcz49_7 : w47.cell? ⟨gb248, 7, none⟩ = some (.slice A0_7 l0_7.length c0_7) := (blk_cell BK248.out 7).trans rfl; have hfz49_0 := blk_frozen BK248.out 0; have hfz49_1 := blk_frozen BK248.out 1; have hfz49_2 := blk_frozen BK248.out 2; have hfz49_3 := blk_frozen BK248.out 3; have hfz49_4 := blk_frozen BK248.out 4; have hfz49_5 := blk_frozen BK248.out 5; have hfz49_6 := blk_frozen BK248.out 6; have hfz49_7 := blk_frozen BK248.out 7; have hcz50_0 : w47.cell? ⟨gb249, 0, none⟩ = some (.int .i64 a1_0) := (blk_cell BK249.out 0).trans rfl; have hcz50_1 : w47.cell? ⟨gb249, 1, none⟩ = some (.int .i64 a1_1) := (blk_cell BK249.out 1).trans rfl; have hcz50_2 : w47.cell? ⟨gb249, 2, none⟩ = some (.int .i64 a1_2) := (blk_cell BK249.out 2).trans rfl; have hcz50_3 : w47.cell? ⟨gb249, 3, none⟩ = some (.int .i64 a1_3) := (blk_cell BK249.out 3).trans rfl; have hcz50_4 : w47.cell? ⟨gb249, 4, none⟩ = some (.int .i64 a1_4) := (blk_cell BK249.out 4).trans rfl; have hcz50_5 : w47.cell? ⟨gb249, 5, none⟩ = some (.int .i64 a1_5) := (blk_cell BK249.out 5).trans rfl; have hcz50_6 : w47.cell? ⟨gb249, 6, none⟩ = some (.int .i64 a1_6) := (blk_cell BK249.out 6).trans rfl; have hcz50_7 : w47.cell? ⟨gb249, 7, none⟩ = some (.slice A1_7 l1_7.length c1_7) := (blk_cell BK249.out 7).trans rfl; have hfz50_0 := blk_frozen BK249.out 0; have hfz50_1 := blk_frozen BK249.out 1; have hfz50_2 := blk_frozen BK249.out 2; have hfz50_3 := blk_frozen BK249.out 3; have hfz50_4 := blk_frozen BK249.out 4; have hfz50_5 := blk_frozen BK249.out 5; have hfz50_6 := blk_frozen BK249.out 6; have hfz50_7 := blk_frozen BK249.out 7))
    go_ret
    exact ⟨by first | rfl | (simp [errW_none, errW_some] <;> rfl) | (simp [*, errW_none, errW_some] <;> rfl), by repeat (first | (with_reducible first | exact HB.out | apply below_alloc | apply pw_below_drewN | apply below_drew1 | refine below_set ?_ GE248.out | refine below_set ?_ GE249.out) | exact HB.out)⟩
def squintlaw18_sameEvents.l0 : Nat → List (S24) → List (S24) → Int → Option (Bool)
  | 0, _, _, _ => none
  | k + 1, x0, x1, x5 => if x5 < (x0.length : Int) then (if 0 ≤ x5 then (if x5 < (x1.length : Int) then ((squintlaw18_sameEvent.f k ((rd_T24 x0 x5).f0) ((rd_T24 x0 x5).f1) ((rd_T24 x0 x5).f2) ((rd_T24 x0 x5).f3) ((rd_T24 x0 x5).f4) ((rd_T24 x0 x5).f5) ((rd_T24 x0 x5).f6) ((rd_T24 x0 x5).f7) ((rd_T24 x1 x5).f0) ((rd_T24 x1 x5).f1) ((rd_T24 x1 x5).f2) ((rd_T24 x1 x5).f3) ((rd_T24 x1 x5).f4) ((rd_T24 x1 x5).f5) ((rd_T24 x1 x5).f6) ((rd_T24 x1 x5).f7)).bind fun t253 => (if t253 = true then (squintlaw18_sameEvents.l0 k x0 x1 (wrap64 (x5 + 1))) else (some false))) else (none)) else (none)) else (some true)
def squintlaw18_sameEvents.f (k : Nat) (l0 : List (S24)) (l1 : List (S24)) : Option (Bool) := if (l0.length : Int) = (l1.length : Int) then (squintlaw18_sameEvents.l0 k l0 l1 0) else (some false)
def squintlaw18_sameEvents.T6 : Bool × List (List Nat × List Nat) := (true, [([], []), ([], []), ([0, 1], [0, 1]), ([2], [2]), ([], []), ([], []), ([4, 5], [4, 5]), ([6], [6]), ([3, 7], [3, 7]), ([8], [8])])
def squintlaw18_sameEvents.B6 : List Nat := [0, 0, 3, 7, 0, 0, 48, 112, 255, 511]
theorem squintlaw18_sameEvents.tab6 : rtab .any (opsOf Tryd.f20 6) = squintlaw18_sameEvents.T6 := by kernel_rfl
theorem squintlaw18_sameEvents.bits6 : waitsOk squintlaw18_sameEvents.T6.2 squintlaw18_sameEvents.B6 = true := by kernel_rfl
set_option maxHeartbeats 8000000 in
set_option maxRecDepth 100000 in
theorem squintlaw18_sameEvents.calls (k : Nat) (A0 : Option Addr) (c0 : Nat) (l0 : List (S24)) (A1 : Option Addr) (c1 : Nat) (l1 : List (S24)) (r : Bool) (w : World) (hr0 : Kd.C k24 w A0 l0.length l0) (hc0 : l0.length ≤ c0) (hr1 : Kd.C k24 w A1 l1.length l1) (hc1 : l1.length ≤ c1) (h : squintlaw18_sameEvents.f k l0 l1 = some r) :
    Calls Tryd.prog 20 #[.slice A0 l0.length c0, .slice A1 l1.length c1] w fun e w' => e = .returned (.bool r) ∧ Below w.heap.size w w' := by
  have hu24 := Tryd.underlying24
  have HR0 := Aside0.mk hr0
  have HC0 := Aside0.mk hc0
  clear hr0 hc0
  have HR1 := Aside0.mk hr1
  have HC1 := Aside0.mk hc1
  clear hr1 hc1
  have HB := Aside0.mk (Below.refl w.heap.size w)
  have H : (if (l0.length : Int) = (l1.length : Int) then (squintlaw18_sameEvents.l0 k l0 l1 0) else (some false)) = some r := h
  clear h
  by_cases c3 : (l0.length : Int) = (l1.length : Int)
  · rw [if_pos c3] at H
    have c3b0 : ((l0.length : Int) == (l1.length : Int)) = true := beq_iff_eq.mpr c3
    have c3b1 : ((l0.length : Int) != (l1.length : Int)) = false := bne_eq_false_iff_eq.mpr c3
    have c3b2 : (l0.length == l1.length) = true := by first | simpa using c3 | (simp at c3 ⊢; omega)
    clear c3
    have H' := Aside0.mk H
    clear H
    go_enter Tryd.func20, Tryd.ntmps20
    go_wp2
    go_loopg [5] k (fun kq v5 w' => ∃ (x5_1 : Int), v5 = .int .i64 x5_1 ∧ Aside0 (squintlaw18_sameEvents.l0 kq l0 l1 x5_1 = some r) ∧ Aside0 (kq ≤ k) ∧ Aside0 (Below w.heap.size w w'))
    case atStart => exact ⟨(0), (by first | rfl | (simp; done) | (simp [*]; done)), H', ⟨Nat.le_refl _⟩, ⟨by repeat (first | (with_reducible first | exact HB.out | apply below_alloc | apply pw_below_drewN | apply below_drew1) | exact HB.out)⟩⟩
    case round =>
      clear H'
      try clear c1
      try clear c2
      try clear p2
      try clear c3
      try clear c3b0
      try clear c3b1
      try clear c3b2
      obtain ⟨x5_1, rfl, HA, HK1, HB⟩ := hrel
      cases gk with
      | zero => exact absurd HA.out (by simp [squintlaw18_sameEvents.l0])
      | succ k1 =>
        have H := HA.out
        clear HA
        simp only [squintlaw18_sameEvents.l0] at H
        by_cases c4 : x5_1 < (l0.length : Int)
        · rw [if_pos c4] at H
          have c4b0 : decide (x5_1 < (l0.length : Int)) = true := decide_eq_true c4
          clear c4
          by_cases c5 : 0 ≤ x5_1
          · rw [if_pos c5] at H
            have c5b0 : decide (0 ≤ x5_1) = true := decide_eq_true c5
            clear c5
            by_cases c6 : x5_1 < (l1.length : Int)
            · rw [if_pos c6] at H
              have c6b0 : decide (x5_1 < (l1.length : Int)) = true := decide_eq_true c6
              clear c6
              replace H := Option.bind_eq_some_iff.mp H
              obtain ⟨t253, A70, H⟩ := H
              replace H : (if t253 = true then (squintlaw18_sameEvents.l0 k1 l0 l1 (wrap64 (x5_1 + 1))) else (some false)) = some r := H
              have A7 := Aside0.mk A70
              clear A70
              by_cases c8 : t253 = true
              · subst c8
                have H1 : (squintlaw18_sameEvents.l0 k1 l0 l1 (wrap64 (x5_1 + 1))) = some r := by rw [if_pos rfl] at H; exact H
                clear H
                have H := H1
                clear H1
                have H' := Aside0.mk H
                clear H
                try go_wp2
                have n0_ := Aside0.mk (below_drew1 HB.out)
                clear HB
                have HB := n0_
                clear n0_
                have p251 : 0 ≤ (x5_1 : Int) := of_decide_eq_true (by first | (with_reducible assumption) | assumption)
                have q251 : x5_1 < (l0.length : Int) := of_decide_eq_true (by first | (with_reducible assumption) | assumption)
                obtain ⟨ad251, A251_7, c251_7, e251, hx251_0, hx251_1, hx251_2, hx251_3, hx251_4, hx251_5, hx251_6, hx251_7, hl251_7, hi251_7⟩ := at_T24 HR0.out x5_1 p251 q251
                have hw251_7 := hx251_7
                have hw251_6 := hx251_6
                have hw251_5 := hx251_5
                have hw251_4 := hx251_4
                have hw251_3 := hx251_3
                have hw251_2 := hx251_2
                have hw251_1 := hx251_1
                have hw251_0 := hx251_0
                cases e251
                replace hx251_0 := (HB.out.cell (World.block_lt_of_cell? w _ hx251_0)).trans hx251_0
                replace hx251_1 := (HB.out.cell (World.block_lt_of_cell? w _ hx251_1)).trans hx251_1
                replace hx251_2 := (HB.out.cell (World.block_lt_of_cell? w _ hx251_2)).trans hx251_2
                replace hx251_3 := (HB.out.cell (World.block_lt_of_cell? w _ hx251_3)).trans hx251_3
                replace hx251_4 := (HB.out.cell (World.block_lt_of_cell? w _ hx251_4)).trans hx251_4
                replace hx251_5 := (HB.out.cell (World.block_lt_of_cell? w _ hx251_5)).trans hx251_5
                replace hx251_6 := (HB.out.cell (World.block_lt_of_cell? w _ hx251_6)).trans hx251_6
                replace hx251_7 := (HB.out.cell (World.block_lt_of_cell? w _ hx251_7)).trans hx251_7
                have HR251_7 := Aside0.mk hi251_7
                have HC251_7 := Aside0.mk hl251_7
                clear hi251_7 hl251_7
                replace p251 := eq_true p251
                replace q251 := eq_true q251
                have p252 : 0 ≤ (x5_1 : Int) := of_decide_eq_true (by first | (with_reducible assumption) | assumption)
                have q252 : x5_1 < (l1.length : Int) := of_decide_eq_true (by first | (with_reducible assumption) | assumption)
                obtain ⟨ad252, A252_7, c252_7, e252, hx252_0, hx252_1, hx252_2, hx252_3, hx252_4, hx252_5, hx252_6, hx252_7, hl252_7, hi252_7⟩ := at_T24 HR1.out x5_1 p252 q252
                have hw252_7 := hx252_7
                have hw252_6 := hx252_6
                have hw252_5 := hx252_5
                have hw252_4 := hx252_4
                have hw252_3 := hx252_3
                have hw252_2 := hx252_2
                have hw252_1 := hx252_1
                have hw252_0 := hx252_0
                cases e252
                replace hx252_0 := (HB.out.cell (World.block_lt_of_cell? w _ hx252_0)).trans hx252_0
                replace hx252_1 := (HB.out.cell (World.block_lt_of_cell? w _ hx252_1)).trans hx252_1
                replace hx252_2 := (HB.out.cell (World.block_lt_of_cell? w _ hx252_2)).trans hx252_2
                replace hx252_3 := (HB.out.cell (World.block_lt_of_cell? w _ hx252_3)).trans hx252_3
                replace hx252_4 := (HB.out.cell (World.block_lt_of_cell? w _ hx252_4)).trans hx252_4
                replace hx252_5 := (HB.out.cell (World.block_lt_of_cell? w _ hx252_5)).trans hx252_5
                replace hx252_6 := (HB.out.cell (World.block_lt_of_cell? w _ hx252_6)).trans hx252_6
                replace hx252_7 := (HB.out.cell (World.block_lt_of_cell? w _ hx252_7)).trans hx252_7
                have HR252_7 := Aside0.mk hi252_7
                have HC252_7 := Aside0.mk hl252_7
                clear hi252_7 hl252_7
                replace p252 := eq_true p252
                replace q252 := eq_true q252
                refine start_ (n := 10) (S := fun w' => w'.cell? (ad251.add ((x5_1).toNat * 8)) = some (.int .i64 ((rd_T24 l0 x5_1).f0)) ∧ w'.cell? ⟨(ad251.add ((x5_1).toNat * 8)).block, (ad251.add ((x5_1).toNat * 8)).off + 1, none⟩ = some (.int .i64 ((rd_T24 l0 x5_1).f1)) ∧ w'.cell? ⟨(ad251.add ((x5_1).toNat * 8)).block, (ad251.add ((x5_1).toNat * 8)).off + 2, none⟩ = some (.int .i64 ((rd_T24 l0 x5_1).f2)) ∧ w'.cell? ⟨(ad251.add ((x5_1).toNat * 8)).block, (ad251.add ((x5_1).toNat * 8)).off + 3, none⟩ = some (.int .i64 ((rd_T24 l0 x5_1).f3)) ∧ w'.cell? ⟨(ad251.add ((x5_1).toNat * 8)).block, (ad251.add ((x5_1).toNat * 8)).off + 4, none⟩ = some (.int .i64 ((rd_T24 l0 x5_1).f4)) ∧ w'.cell? ⟨(ad251.add ((x5_1).toNat * 8)).block, (ad251.add ((x5_1).toNat * 8)).off + 5, none⟩ = some (.int .i64 ((rd_T24 l0 x5_1).f5)) ∧ w'.cell? ⟨(ad251.add ((x5_1).toNat * 8)).block, (ad251.add ((x5_1).toNat * 8)).off + 6, none⟩ = some (.int .i64 ((rd_T24 l0 x5_1).f6)) ∧ w'.cell? ⟨(ad251.add ((x5_1).toNat * 8)).block, (ad251.add ((x5_1).toNat * 8)).off + 7, none⟩ = some (.slice A251_7 ((rd_T24 l0 x5_1).f7).length c251_7) ∧ w'.cell? (ad252.add ((x5_1).toNat * 8)) = some (.int .i64 ((rd_T24 l1 x5_1).f0)) ∧ w'.cell? ⟨(ad252.add ((x5_1).toNat * 8)).block, (ad252.add ((x5_1).toNat * 8)).off + 1, none⟩ = some (.int .i64 ((rd_T24 l1 x5_1).f1)) ∧ w'.cell? ⟨(ad252.add ((x5_1).toNat * 8)).block, (ad252.add ((x5_1).toNat * 8)).off + 2, none⟩ = some (.int .i64 ((rd_T24 l1 x5_1).f2)) ∧ w'.cell? ⟨(ad252.add ((x5_1).toNat * 8)).block, (ad252.add ((x5_1).toNat * 8)).off + 3, none⟩ = some (.int .i64 ((rd_T24 l1 x5_1).f3)) ∧ w'.cell? ⟨(ad252.add ((x5_1).toNat * 8)).block, (ad252.add ((x5_1).toNat * 8)).off + 4, none⟩ = some (.int .i64 ((rd_T24 l1 x5_1).f4)) ∧ w'.cell? ⟨(ad252.add ((x5_1).toNat * 8)).block, (ad252.add ((x5_1).toNat * 8)).off + 5, none⟩ = some (.int .i64 ((rd_T24 l1 x5_1).f5)) ∧ w'.cell? ⟨(ad252.add ((x5_1).toNat * 8)).block, (ad252.add ((x5_1).toNat * 8)).off + 6, none⟩ = some (.int .i64 ((rd_T24 l1 x5_1).f6)) ∧ w'.cell? ⟨(ad252.add ((x5_1).toNat * 8)).block, (ad252.add ((x5_1).toNat * 8)).off + 7, none⟩ = some (.slice A252_7 ((rd_T24 l1 x5_1).f7).length c252_7)) (ds := []) #[false, false, false, false, false, false, false, false, false, false] (by kernel_rfl) rfl rfl ⟨((HB.out.cell (World.block_lt_of_cell? w _ hw251_0)).trans hw251_0), ((HB.out.cell (World.block_lt_of_cell? w _ hw251_1)).trans hw251_1), ((HB.out.cell (World.block_lt_of_cell? w _ hw251_2)).trans hw251_2), ((HB.out.cell (World.block_lt_of_cell? w _ hw251_3)).trans hw251_3), ((HB.out.cell (World.block_lt_of_cell? w _ hw251_4)).trans hw251_4), ((HB.out.cell (World.block_lt_of_cell? w _ hw251_5)).trans hw251_5), ((HB.out.cell (World.block_lt_of_cell? w _ hw251_6)).trans hw251_6), ((HB.out.cell (World.block_lt_of_cell? w _ hw251_7)).trans hw251_7), ((HB.out.cell (World.block_lt_of_cell? w _ hw252_0)).trans hw252_0), ((HB.out.cell (World.block_lt_of_cell? w _ hw252_1)).trans hw252_1), ((HB.out.cell (World.block_lt_of_cell? w _ hw252_2)).trans hw252_2), ((HB.out.cell (World.block_lt_of_cell? w _ hw252_3)).trans hw252_3), ((HB.out.cell (World.block_lt_of_cell? w _ hw252_4)).trans hw252_4), ((HB.out.cell (World.block_lt_of_cell? w _ hw252_5)).trans hw252_5), ((HB.out.cell (World.block_lt_of_cell? w _ hw252_6)).trans hw252_6), ((HB.out.cell (World.block_lt_of_cell? w _ hw252_7)).trans hw252_7)⟩ (fun hHeld => ?_); refine with_tabW squintlaw18_sameEvents.tab6 squintlaw18_sameEvents.bits6 (fun HT_ HW_ => ?_)
                generalize wr.drew = w9 at HB HR251_7 HR252_7 hx251_0 hx251_1 hx251_2 hx251_3 hx251_4 hx251_5 hx251_6 hx251_7 hx252_0 hx252_1 hx252_2 hx252_3 hx252_4 hx252_5 hx252_6 hx252_7 hHeld ⊢
                refine pure_ (i := 0) (N := some 17) (v := ?_) (a' := ?_) #[true, false, false, false, false, false, false, false, false, false] rfl rfl (any_of HT_.out (by kernel_rfl)) (fun _ _ _ h => h) (Or.inl ⟨by rfl, ?_⟩) ?_ ?_
                rotate_left
                · intro w'
                  go_simp
                  with_reducible rfl
                rotate_left
                · simp only [Act.put, List.setIfInBounds_toArray, List.set_cons_zero, List.set_cons_succ, i64_w, i32_w]
                  rfl
                refine pure_ (i := 1) (N := some 18) (v := ?_) (a' := ?_) #[true, true, false, false, false, false, false, false, false, false] rfl rfl (any_of HT_.out (by kernel_rfl)) (fun _ _ _ h => h) (Or.inl ⟨by rfl, ?_⟩) ?_ ?_
                rotate_left
                · intro w'
                  go_simp
                  with_reducible rfl
                rotate_left
                · simp only [Act.put, List.setIfInBounds_toArray, List.set_cons_zero, List.set_cons_succ, i64_w, i32_w]
                  rfl
                refine pure_ (i := 2) (N := some 19) (v := ?_) (a' := ?_) #[true, true, true, false, false, false, false, false, false, false] rfl rfl (any_of HT_.out (by kernel_rfl)) (fun _ _ _ h => h) (Or.inl ⟨by rfl, ?_⟩) ?_ ?_
                rotate_left
                · intro w'
                  go_simp
                  with_reducible rfl
                rotate_left
                · simp only [Act.put, List.setIfInBounds_toArray, List.set_cons_zero, List.set_cons_succ, i64_w, i32_w]
                  rfl
                refine pure_ (i := 4) (N := some 21) (v := ?_) (a' := ?_) #[true, true, true, false, true, false, false, false, false, false] rfl rfl (any_of HT_.out (by kernel_rfl)) (fun _ _ _ h => h) (Or.inl ⟨by rfl, ?_⟩) ?_ ?_
                rotate_left
                · intro w'
                  go_simp
                  with_reducible rfl
                rotate_left
                · simp only [Act.put, List.setIfInBounds_toArray, List.set_cons_zero, List.set_cons_succ, i64_w, i32_w]
                  rfl
                refine pure_ (i := 5) (N := some 22) (v := ?_) (a' := ?_) #[true, true, true, false, true, true, false, false, false, false] rfl rfl (any_of HT_.out (by kernel_rfl)) (fun _ _ _ h => h) (Or.inl ⟨by rfl, ?_⟩) ?_ ?_
                rotate_left
                · intro w'
                  go_simp
                  with_reducible rfl
                rotate_left
                · simp only [Act.put, List.setIfInBounds_toArray, List.set_cons_zero, List.set_cons_succ, i64_w, i32_w]
                  rfl
                refine pure_ (i := 6) (N := some 23) (v := ?_) (a' := ?_) #[true, true, true, false, true, true, true, false, false, false] rfl rfl (any_of HT_.out (by kernel_rfl)) (fun _ _ _ h => h) (Or.inl ⟨by rfl, ?_⟩) ?_ ?_
                rotate_left
                · intro w'
                  go_simp
                  with_reducible rfl
                rotate_left
                · simp only [Act.put, List.setIfInBounds_toArray, List.set_cons_zero, List.set_cons_succ, i64_w, i32_w]
                  rfl
                refine take_ (i := 3) (N := some 20) (v := ?_) (a' := ?_) #[true, true, true, true, true, true, true, false, false, false] rfl rfl (take_ofW HT_.out HW_.out (by kernel_rfl)) (fun _ _ _ h => h) (Or.inl ⟨by rfl, ?_⟩) hHeld ?_ ?_
                rotate_left
                · rintro w' ⟨s0, s1, s2, s3, s4, s5, s6, s7, s8, s9, s10, s11, s12, s13, s14, s15⟩
                  go_simp
                  with_reducible rfl
                rotate_left
                · simp only [Act.put, List.setIfInBounds_toArray, List.set_cons_zero, List.set_cons_succ, i64_w, i32_w]
                  rfl
                refine take_ (i := 7) (N := some 24) (v := ?_) (a' := ?_) #[true, true, true, true, true, true, true, true, false, false] rfl rfl (take_ofW HT_.out HW_.out (by kernel_rfl)) (fun _ _ _ h => h) (Or.inl ⟨by rfl, ?_⟩) hHeld ?_ ?_
                rotate_left
                · rintro w' ⟨s0, s1, s2, s3, s4, s5, s6, s7, s8, s9, s10, s11, s12, s13, s14, s15⟩
                  go_simp
                  with_reducible rfl
                rotate_left
                · simp only [Act.put, List.setIfInBounds_toArray, List.set_cons_zero, List.set_cons_succ, i64_w, i32_w]
                  rfl
                refine one_ (i := 8) (N := some 25) #[true, true, true, true, true, true, true, true, true, false] rfl rfl (one_of HT_.out (by kernel_rfl)) (by decide) (fun K hK => ?_)
                refine goes_ Tryd.func39 (by kernel_rfl) rfl #[.agg #[.int .i64 ((rd_T24 l0 x5_1).f0), .int .i64 ((rd_T24 l0 x5_1).f1), .int .i64 ((rd_T24 l0 x5_1).f2), .int .i64 ((rd_T24 l0 x5_1).f3), .int .i64 ((rd_T24 l0 x5_1).f4), .int .i64 ((rd_T24 l0 x5_1).f5), .int .i64 ((rd_T24 l0 x5_1).f6), .slice A251_7 ((rd_T24 l0 x5_1).f7).length c251_7], .agg #[.int .i64 ((rd_T24 l1 x5_1).f0), .int .i64 ((rd_T24 l1 x5_1).f1), .int .i64 ((rd_T24 l1 x5_1).f2), .int .i64 ((rd_T24 l1 x5_1).f3), .int .i64 ((rd_T24 l1 x5_1).f4), .int .i64 ((rd_T24 l1 x5_1).f5), .int .i64 ((rd_T24 l1 x5_1).f6), .slice A252_7 ((rd_T24 l1 x5_1).f7).length c252_7]] (by rfl) rfl rfl (by (try simp only [List.map_toArray, List.map_cons, List.map_nil]); first | done | rfl | (simp only [List.length_drop, List.length_take]; rfl)) ?_
                with_reducible refine (squintlaw18_sameEvent.calls k1 ((rd_T24 l0 x5_1).f0) ((rd_T24 l0 x5_1).f1) ((rd_T24 l0 x5_1).f2) ((rd_T24 l0 x5_1).f3) ((rd_T24 l0 x5_1).f4) ((rd_T24 l0 x5_1).f5) ((rd_T24 l0 x5_1).f6) _ _ ((rd_T24 l0 x5_1).f7) ((rd_T24 l1 x5_1).f0) ((rd_T24 l1 x5_1).f1) ((rd_T24 l1 x5_1).f2) ((rd_T24 l1 x5_1).f3) ((rd_T24 l1 x5_1).f4) ((rd_T24 l1 x5_1).f5) ((rd_T24 l1 x5_1).f6) _ _ ((rd_T24 l1 x5_1).f7) true _ ?side1 ?side2 ?side3 ?side4 A7.out).mono ?_
                (case side1 => repeat (first | exact (Kd.C_below HR251_7.out HB.out) | (with_reducible refine Kd.C_alloc ?_ _) | (with_reducible refine Kd.C_drewN ?_ _) | (with_reducible refine Kd.C_drew ?_)))
                (case side2 => exact HC251_7.out)
                (case side3 => repeat (first | exact (Kd.C_below HR252_7.out HB.out) | (with_reducible refine Kd.C_alloc ?_ _) | (with_reducible refine Kd.C_drewN ?_ _) | (with_reducible refine Kd.C_drew ?_)))
                (case side4 => exact HC252_7.out)
                rintro e w10 ⟨rfl, hb⟩
                refine ⟨_, rfl, ?_⟩
                have n0_ := Aside0.mk (below_step (by repeat (first | (with_reducible first | exact HB.out | apply below_alloc | apply pw_below_drewN | apply below_drew1) | exact HB.out)) hb)
                clear HB
                have HB := n0_
                clear n0_
                (try clear hb)
                (try clear hb2)
                (try clear hk)
                (try clear hi)
                refine hK.out _ _ ⟨((HB.out.cell (World.block_lt_of_cell? w _ hw251_0)).trans hw251_0), ((HB.out.cell (World.block_lt_of_cell? w _ hw251_1)).trans hw251_1), ((HB.out.cell (World.block_lt_of_cell? w _ hw251_2)).trans hw251_2), ((HB.out.cell (World.block_lt_of_cell? w _ hw251_3)).trans hw251_3), ((HB.out.cell (World.block_lt_of_cell? w _ hw251_4)).trans hw251_4), ((HB.out.cell (World.block_lt_of_cell? w _ hw251_5)).trans hw251_5), ((HB.out.cell (World.block_lt_of_cell? w _ hw251_6)).trans hw251_6), ((HB.out.cell (World.block_lt_of_cell? w _ hw251_7)).trans hw251_7), ((HB.out.cell (World.block_lt_of_cell? w _ hw252_0)).trans hw252_0), ((HB.out.cell (World.block_lt_of_cell? w _ hw252_1)).trans hw252_1), ((HB.out.cell (World.block_lt_of_cell? w _ hw252_2)).trans hw252_2), ((HB.out.cell (World.block_lt_of_cell? w _ hw252_3)).trans hw252_3), ((HB.out.cell (World.block_lt_of_cell? w _ hw252_4)).trans hw252_4), ((HB.out.cell (World.block_lt_of_cell? w _ hw252_5)).trans hw252_5), ((HB.out.cell (World.block_lt_of_cell? w _ hw252_6)).trans hw252_6), ((HB.out.cell (World.block_lt_of_cell? w _ hw252_7)).trans hw252_7)⟩ (fun hHeld => ?_)
                clear hK K
                refine norm_ (a' := ?_) ?_ ?_
                rotate_left
                · show Act.put _ (some 25) _ = _
                  simp only [Act.put, List.setIfInBounds_toArray, List.set_cons_zero, List.set_cons_succ, i64_w, i32_w]
                  rfl
                refine pure_ (i := 9) (N := some 26) (v := ?_) (a' := ?_) #[true, true, true, true, true, true, true, true, true, true] rfl rfl (any_of HT_.out (by kernel_rfl)) (fun _ _ _ h => h) (Or.inl ⟨by rfl, ?_⟩) ?_ ?_
                rotate_left
                · intro w'
                  go_simp
                  with_reducible rfl
                rotate_left
                · simp only [Act.put, List.setIfInBounds_toArray, List.set_cons_zero, List.set_cons_succ, i64_w, i32_w]
                  rfl
                refine done_ (done_of HT_.out (by kernel_rfl)) ?_
                try go_wp2
                go_roundg k1
                case measure => have := HK1.out; omega
                case rel => exact ⟨(wrap64 (x5_1 + 1)), (by first | rfl | (simp; done) | (simp [*]; done)), H', ⟨by have := HK1.out; omega⟩, ⟨by repeat (first | (with_reducible first | exact HB.out | apply below_alloc | apply pw_below_drewN | apply below_drew1) | exact HB.out)⟩⟩
              · replace c8 := Bool.eq_false_iff.mpr c8
                subst c8
                have H1 : (some false) = some r := by rw [if_neg (show ¬ (false = true) by decide)] at H; exact H
                clear H
                have H := H1
                clear H1
                obtain rfl := Option.some.inj H
                try go_wp2
                have n0_ := Aside0.mk (below_drew1 HB.out)
                clear HB
                have HB := n0_
                clear n0_
                have p251 : 0 ≤ (x5_1 : Int) := of_decide_eq_true (by first | (with_reducible assumption) | assumption)
                have q251 : x5_1 < (l0.length : Int) := of_decide_eq_true (by first | (with_reducible assumption) | assumption)
                obtain ⟨ad251, A251_7, c251_7, e251, hx251_0, hx251_1, hx251_2, hx251_3, hx251_4, hx251_5, hx251_6, hx251_7, hl251_7, hi251_7⟩ := at_T24 HR0.out x5_1 p251 q251
                have hw251_7 := hx251_7
                have hw251_6 := hx251_6
                have hw251_5 := hx251_5
                have hw251_4 := hx251_4
                have hw251_3 := hx251_3
                have hw251_2 := hx251_2
                have hw251_1 := hx251_1
                have hw251_0 := hx251_0
                cases e251
                replace hx251_0 := (HB.out.cell (World.block_lt_of_cell? w _ hx251_0)).trans hx251_0
                replace hx251_1 := (HB.out.cell (World.block_lt_of_cell? w _ hx251_1)).trans hx251_1
                replace hx251_2 := (HB.out.cell (World.block_lt_of_cell? w _ hx251_2)).trans hx251_2
                replace hx251_3 := (HB.out.cell (World.block_lt_of_cell? w _ hx251_3)).trans hx251_3
                replace hx251_4 := (HB.out.cell (World.block_lt_of_cell? w _ hx251_4)).trans hx251_4
                replace hx251_5 := (HB.out.cell (World.block_lt_of_cell? w _ hx251_5)).trans hx251_5
                replace hx251_6 := (HB.out.cell (World.block_lt_of_cell? w _ hx251_6)).trans hx251_6
                replace hx251_7 := (HB.out.cell (World.block_lt_of_cell? w _ hx251_7)).trans hx251_7
                have HR251_7 := Aside0.mk hi251_7
                have HC251_7 := Aside0.mk hl251_7
                clear hi251_7 hl251_7
                replace p251 := eq_true p251
                replace q251 := eq_true q251
                have p252 : 0 ≤ (x5_1 : Int) := of_decide_eq_true (by first | (with_reducible assumption) | assumption)
                have q252 : x5_1 < (l1.length : Int) := of_decide_eq_true (by first | (with_reducible assumption) | assumption)
                obtain ⟨ad252, A252_7, c252_7, e252, hx252_0, hx252_1, hx252_2, hx252_3, hx252_4, hx252_5, hx252_6, hx252_7, hl252_7, hi252_7⟩ := at_T24 HR1.out x5_1 p252 q252
                have hw252_7 := hx252_7
                have hw252_6 := hx252_6
                have hw252_5 := hx252_5
                have hw252_4 := hx252_4
                have hw252_3 := hx252_3
                have hw252_2 := hx252_2
                have hw252_1 := hx252_1
                have hw252_0 := hx252_0
                cases e252
                replace hx252_0 := (HB.out.cell (World.block_lt_of_cell? w _ hx252_0)).trans hx252_0
                replace hx252_1 := (HB.out.cell (World.block_lt_of_cell? w _ hx252_1)).trans hx252_1
                replace hx252_2 := (HB.out.cell (World.block_lt_of_cell? w _ hx252_2)).trans hx252_2
                replace hx252_3 := (HB.out.cell (World.block_lt_of_cell? w _ hx252_3)).trans hx252_3
                replace hx252_4 := (HB.out.cell (World.block_lt_of_cell? w _ hx252_4)).trans hx252_4
                replace hx252_5 := (HB.out.cell (World.block_lt_of_cell? w _ hx252_5)).trans hx252_5
                replace hx252_6 := (HB.out.cell (World.block_lt_of_cell? w _ hx252_6)).trans hx252_6
                replace hx252_7 := (HB.out.cell (World.block_lt_of_cell? w _ hx252_7)).trans hx252_7
                have HR252_7 := Aside0.mk hi252_7
                have HC252_7 := Aside0.mk hl252_7
                clear hi252_7 hl252_7
                replace p252 := eq_true p252
                replace q252 := eq_true q252
                refine start_ (n := 10) (S := fun w' => w'.cell? (ad251.add ((x5_1).toNat * 8)) = some (.int .i64 ((rd_T24 l0 x5_1).f0)) ∧ w'.cell? ⟨(ad251.add ((x5_1).toNat * 8)).block, (ad251.add ((x5_1).toNat * 8)).off + 1, none⟩ = some (.int .i64 ((rd_T24 l0 x5_1).f1)) ∧ w'.cell? ⟨(ad251.add ((x5_1).toNat * 8)).block, (ad251.add ((x5_1).toNat * 8)).off + 2, none⟩ = some (.int .i64 ((rd_T24 l0 x5_1).f2)) ∧ w'.cell? ⟨(ad251.add ((x5_1).toNat * 8)).block, (ad251.add ((x5_1).toNat * 8)).off + 3, none⟩ = some (.int .i64 ((rd_T24 l0 x5_1).f3)) ∧ w'.cell? ⟨(ad251.add ((x5_1).toNat * 8)).block, (ad251.add ((x5_1).toNat * 8)).off + 4, none⟩ = some (.int .i64 ((rd_T24 l0 x5_1).f4)) ∧ w'.cell? ⟨(ad251.add ((x5_1).toNat * 8)).block, (ad251.add ((x5_1).toNat * 8)).off + 5, none⟩ = some (.int .i64 ((rd_T24 l0 x5_1).f5)) ∧ w'.cell? ⟨(ad251.add ((x5_1).toNat * 8)).block, (ad251.add ((x5_1).toNat * 8)).off + 6, none⟩ = some (.int .i64 ((rd_T24 l0 x5_1).f6)) ∧ w'.cell? ⟨(ad251.add ((x5_1).toNat * 8)).block, (ad251.add ((x5_1).toNat * 8)).off + 7, none⟩ = some (.slice A251_7 ((rd_T24 l0 x5_1).f7).length c251_7) ∧ w'.cell? (ad252.add ((x5_1).toNat * 8)) = some (.int .i64 ((rd_T24 l1 x5_1).f0)) ∧ w'.cell? ⟨(ad252.add ((x5_1).toNat * 8)).block, (ad252.add ((x5_1).toNat * 8)).off + 1, none⟩ = some (.int .i64 ((rd_T24 l1 x5_1).f1)) ∧ w'.cell? ⟨(ad252.add ((x5_1).toNat * 8)).block, (ad252.add ((x5_1).toNat * 8)).off + 2, none⟩ = some (.int .i64 ((rd_T24 l1 x5_1).f2)) ∧ w'.cell? ⟨(ad252.add ((x5_1).toNat * 8)).block, (ad252.add ((x5_1).toNat * 8)).off + 3, none⟩ = some (.int .i64 ((rd_T24 l1 x5_1).f3)) ∧ w'.cell? ⟨(ad252.add ((x5_1).toNat * 8)).block, (ad252.add ((x5_1).toNat * 8)).off + 4, none⟩ = some (.int .i64 ((rd_T24 l1 x5_1).f4)) ∧ w'.cell? ⟨(ad252.add ((x5_1).toNat * 8)).block, (ad252.add ((x5_1).toNat * 8)).off + 5, none⟩ = some (.int .i64 ((rd_T24 l1 x5_1).f5)) ∧ w'.cell? ⟨(ad252.add ((x5_1).toNat * 8)).block, (ad252.add ((x5_1).toNat * 8)).off + 6, none⟩ = some (.int .i64 ((rd_T24 l1 x5_1).f6)) ∧ w'.cell? ⟨(ad252.add ((x5_1).toNat * 8)).block, (ad252.add ((x5_1).toNat * 8)).off + 7, none⟩ = some (.slice A252_7 ((rd_T24 l1 x5_1).f7).length c252_7)) (ds := []) #[false, false, false, false, false, false, false, false, false, false] (by kernel_rfl) rfl rfl ⟨((HB.out.cell (World.block_lt_of_cell? w _ hw251_0)).trans hw251_0), ((HB.out.cell (World.block_lt_of_cell? w _ hw251_1)).trans hw251_1), ((HB.out.cell (World.block_lt_of_cell? w _ hw251_2)).trans hw251_2), ((HB.out.cell (World.block_lt_of_cell? w _ hw251_3)).trans hw251_3), ((HB.out.cell (World.block_lt_of_cell? w _ hw251_4)).trans hw251_4), ((HB.out.cell (World.block_lt_of_cell? w _ hw251_5)).trans hw251_5), ((HB.out.cell (World.block_lt_of_cell? w _ hw251_6)).trans hw251_6), ((HB.out.cell (World.block_lt_of_cell? w _ hw251_7)).trans hw251_7), ((HB.out.cell (World.block_lt_of_cell? w _ hw252_0)).trans hw252_0), ((HB.out.cell (World.block_lt_of_cell? w _ hw252_1)).trans hw252_1), ((HB.out.cell (World.block_lt_of_cell? w _ hw252_2)).trans hw252_2), ((HB.out.cell (World.block_lt_of_cell? w _ hw252_3)).trans hw252_3), ((HB.out.cell (World.block_lt_of_cell? w _ hw252_4)).trans hw252_4), ((HB.out.cell (World.block_lt_of_cell? w _ hw252_5)).trans hw252_5), ((HB.out.cell (World.block_lt_of_cell? w _ hw252_6)).trans hw252_6), ((HB.out.cell (World.block_lt_of_cell? w _ hw252_7)).trans hw252_7)⟩ (fun hHeld => ?_); refine with_tabW squintlaw18_sameEvents.tab6 squintlaw18_sameEvents.bits6 (fun HT_ HW_ => ?_)
                generalize wr.drew = w11 at HB HR251_7 HR252_7 hx251_0 hx251_1 hx251_2 hx251_3 hx251_4 hx251_5 hx251_6 hx251_7 hx252_0 hx252_1 hx252_2 hx252_3 hx252_4 hx252_5 hx252_6 hx252_7 hHeld ⊢
                refine pure_ (i := 0) (N := some 17) (v := ?_) (a' := ?_) #[true, false, false, false, false, false, false, false, false, false] rfl rfl (any_of HT_.out (by kernel_rfl)) (fun _ _ _ h => h) (Or.inl ⟨by rfl, ?_⟩) ?_ ?_
                rotate_left
                · intro w'
                  go_simp
                  with_reducible rfl
                rotate_left
                · simp only [Act.put, List.setIfInBounds_toArray, List.set_cons_zero, List.set_cons_succ, i64_w, i32_w]
                  rfl
                refine pure_ (i := 1) (N := some 18) (v := ?_) (a' := ?_) #[true, true, false, false, false, false, false, false, false, false] rfl rfl (any_of HT_.out (by kernel_rfl)) (fun _ _ _ h => h) (Or.inl ⟨by rfl, ?_⟩) ?_ ?_
                rotate_left
                · intro w'
                  go_simp
                  with_reducible rfl
                rotate_left
                · simp only [Act.put, List.setIfInBounds_toArray, List.set_cons_zero, List.set_cons_succ, i64_w, i32_w]
                  rfl
                refine pure_ (i := 2) (N := some 19) (v := ?_) (a' := ?_) #[true, true, true, false, false, false, false, false, false, false] rfl rfl (any_of HT_.out (by kernel_rfl)) (fun _ _ _ h => h) (Or.inl ⟨by rfl, ?_⟩) ?_ ?_
                rotate_left
                · intro w'
                  go_simp
                  with_reducible rfl
                rotate_left
                · simp only [Act.put, List.setIfInBounds_toArray, List.set_cons_zero, List.set_cons_succ, i64_w, i32_w]
                  rfl
                refine pure_ (i := 4) (N := some 21) (v := ?_) (a' := ?_) #[true, true, true, false, true, false, false, false, false, false] rfl rfl (any_of HT_.out (by kernel_rfl)) (fun _ _ _ h => h) (Or.inl ⟨by rfl, ?_⟩) ?_ ?_
                rotate_left
                · intro w'
                  go_simp
                  with_reducible rfl
                rotate_left
                · simp only [Act.put, List.setIfInBounds_toArray, List.set_cons_zero, List.set_cons_succ, i64_w, i32_w]
                  rfl
                refine pure_ (i := 5) (N := some 22) (v := ?_) (a' := ?_) #[true, true, true, false, true, true, false, false, false, false] rfl rfl (any_of HT_.out (by kernel_rfl)) (fun _ _ _ h => h) (Or.inl ⟨by rfl, ?_⟩) ?_ ?_
                rotate_left
                · intro w'
                  go_simp
                  with_reducible rfl
                rotate_left
                · simp only [Act.put, List.setIfInBounds_toArray, List.set_cons_zero, List.set_cons_succ, i64_w, i32_w]
                  rfl
                refine pure_ (i := 6) (N := some 23) (v := ?_) (a' := ?_) #[true, true, true, false, true, true, true, false, false, false] rfl rfl (any_of HT_.out (by kernel_rfl)) (fun _ _ _ h => h) (Or.inl ⟨by rfl, ?_⟩) ?_ ?_
                rotate_left
                · intro w'
                  go_simp
                  with_reducible rfl
                rotate_left
                · simp only [Act.put, List.setIfInBounds_toArray, List.set_cons_zero, List.set_cons_succ, i64_w, i32_w]
                  rfl
                refine take_ (i := 3) (N := some 20) (v := ?_) (a' := ?_) #[true, true, true, true, true, true, true, false, false, false] rfl rfl (take_ofW HT_.out HW_.out (by kernel_rfl)) (fun _ _ _ h => h) (Or.inl ⟨by rfl, ?_⟩) hHeld ?_ ?_
                rotate_left
                · rintro w' ⟨s0, s1, s2, s3, s4, s5, s6, s7, s8, s9, s10, s11, s12, s13, s14, s15⟩
                  go_simp
                  with_reducible rfl
                rotate_left
                · simp only [Act.put, List.setIfInBounds_toArray, List.set_cons_zero, List.set_cons_succ, i64_w, i32_w]
                  rfl
                refine take_ (i := 7) (N := some 24) (v := ?_) (a' := ?_) #[true, true, true, true, true, true, true, true, false, false] rfl rfl (take_ofW HT_.out HW_.out (by kernel_rfl)) (fun _ _ _ h => h) (Or.inl ⟨by rfl, ?_⟩) hHeld ?_ ?_
                rotate_left
                · rintro w' ⟨s0, s1, s2, s3, s4, s5, s6, s7, s8, s9, s10, s11, s12, s13, s14, s15⟩
                  go_simp
                  with_reducible rfl
                rotate_left
                · simp only [Act.put, List.setIfInBounds_toArray, List.set_cons_zero, List.set_cons_succ, i64_w, i32_w]
                  rfl
                refine one_ (i := 8) (N := some 25) #[true, true, true, true, true, true, true, true, true, false] rfl rfl (one_of HT_.out (by kernel_rfl)) (by decide) (fun K hK => ?_)
                refine goes_ Tryd.func39 (by kernel_rfl) rfl #[.agg #[.int .i64 ((rd_T24 l0 x5_1).f0), .int .i64 ((rd_T24 l0 x5_1).f1), .int .i64 ((rd_T24 l0 x5_1).f2), .int .i64 ((rd_T24 l0 x5_1).f3), .int .i64 ((rd_T24 l0 x5_1).f4), .int .i64 ((rd_T24 l0 x5_1).f5), .int .i64 ((rd_T24 l0 x5_1).f6), .slice A251_7 ((rd_T24 l0 x5_1).f7).length c251_7], .agg #[.int .i64 ((rd_T24 l1 x5_1).f0), .int .i64 ((rd_T24 l1 x5_1).f1), .int .i64 ((rd_T24 l1 x5_1).f2), .int .i64 ((rd_T24 l1 x5_1).f3), .int .i64 ((rd_T24 l1 x5_1).f4), .int .i64 ((rd_T24 l1 x5_1).f5), .int .i64 ((rd_T24 l1 x5_1).f6), .slice A252_7 ((rd_T24 l1 x5_1).f7).length c252_7]] (by rfl) rfl rfl (by (try simp only [List.map_toArray, List.map_cons, List.map_nil]); first | done | rfl | (simp only [List.length_drop, List.length_take]; rfl)) ?_
                with_reducible refine (squintlaw18_sameEvent.calls k1 ((rd_T24 l0 x5_1).f0) ((rd_T24 l0 x5_1).f1) ((rd_T24 l0 x5_1).f2) ((rd_T24 l0 x5_1).f3) ((rd_T24 l0 x5_1).f4) ((rd_T24 l0 x5_1).f5) ((rd_T24 l0 x5_1).f6) _ _ ((rd_T24 l0 x5_1).f7) ((rd_T24 l1 x5_1).f0) ((rd_T24 l1 x5_1).f1) ((rd_T24 l1 x5_1).f2) ((rd_T24 l1 x5_1).f3) ((rd_T24 l1 x5_1).f4) ((rd_T24 l1 x5_1).f5) ((rd_T24 l1 x5_1).f6) _ _ ((rd_T24 l1 x5_1).f7) false _ ?side1 ?side2 ?side3 ?side4 A7.out).mono ?_
                (case side1 => repeat (first | exact (Kd.C_below HR251_7.out HB.out) | (with_reducible refine Kd.C_alloc ?_ _) | (with_reducible refine Kd.C_drewN ?_ _) | (with_reducible refine Kd.C_drew ?_)))
                (case side2 => exact HC251_7.out)
                (case side3 => repeat (first | exact (Kd.C_below HR252_7.out HB.out) | (with_reducible refine Kd.C_alloc ?_ _) | (with_reducible refine Kd.C_drewN ?_ _) | (with_reducible refine Kd.C_drew ?_)))
                (case side4 => exact HC252_7.out)
                rintro e w12 ⟨rfl, hb⟩
                refine ⟨_, rfl, ?_⟩
                have n0_ := Aside0.mk (below_step (by repeat (first | (with_reducible first | exact HB.out | apply below_alloc | apply pw_below_drewN | apply below_drew1) | exact HB.out)) hb)
                clear HB
                have HB := n0_
                clear n0_
                (try clear hb)
                (try clear hb2)
                (try clear hk)
                (try clear hi)
                refine hK.out _ _ ⟨((HB.out.cell (World.block_lt_of_cell? w _ hw251_0)).trans hw251_0), ((HB.out.cell (World.block_lt_of_cell? w _ hw251_1)).trans hw251_1), ((HB.out.cell (World.block_lt_of_cell? w _ hw251_2)).trans hw251_2), ((HB.out.cell (World.block_lt_of_cell? w _ hw251_3)).trans hw251_3), ((HB.out.cell (World.block_lt_of_cell? w _ hw251_4)).trans hw251_4), ((HB.out.cell (World.block_lt_of_cell? w _ hw251_5)).trans hw251_5), ((HB.out.cell (World.block_lt_of_cell? w _ hw251_6)).trans hw251_6), ((HB.out.cell (World.block_lt_of_cell? w _ hw251_7)).trans hw251_7), ((HB.out.cell (World.block_lt_of_cell? w _ hw252_0)).trans hw252_0), ((HB.out.cell (World.block_lt_of_cell? w _ hw252_1)).trans hw252_1), ((HB.out.cell (World.block_lt_of_cell? w _ hw252_2)).trans hw252_2), ((HB.out.cell (World.block_lt_of_cell? w _ hw252_3)).trans hw252_3), ((HB.out.cell (World.block_lt_of_cell? w _ hw252_4)).trans hw252_4), ((HB.out.cell (World.block_lt_of_cell? w _ hw252_5)).trans hw252_5), ((HB.out.cell (World.block_lt_of_cell? w _ hw252_6)).trans hw252_6), ((HB.out.cell (World.block_lt_of_cell? w _ hw252_7)).trans hw252_7)⟩ (fun hHeld => ?_)
                clear hK K
                refine norm_ (a' := ?_) ?_ ?_
                rotate_left
                · show Act.put _ (some 25) _ = _
                  simp only [Act.put, List.setIfInBounds_toArray, List.set_cons_zero, List.set_cons_succ, i64_w, i32_w]
                  rfl
                refine pure_ (i := 9) (N := some 26) (v := ?_) (a' := ?_) #[true, true, true, true, true, true, true, true, true, true] rfl rfl (any_of HT_.out (by kernel_rfl)) (fun _ _ _ h => h) (Or.inl ⟨by rfl, ?_⟩) ?_ ?_
                rotate_left
                · intro w'
                  go_simp
                  with_reducible rfl
                rotate_left
                · simp only [Act.put, List.setIfInBounds_toArray, List.set_cons_zero, List.set_cons_succ, i64_w, i32_w]
                  rfl
                refine done_ (done_of HT_.out (by kernel_rfl)) ?_
                try go_wp2
                go_ret
                exact ⟨by first | rfl | (simp [errW_none, errW_some] <;> rfl) | (simp [*, errW_none, errW_some] <;> rfl), by repeat (first | (with_reducible first | exact HB.out | apply below_alloc | apply pw_below_drewN | apply below_drew1) | exact HB.out)⟩
            · rw [if_neg c6] at H
              exact absurd H (by simp)
          · rw [if_neg c5] at H
            exact absurd H (by simp)
        · rw [if_neg c4] at H
          have c4b0 : decide (x5_1 < (l0.length : Int)) = false := decide_eq_false c4
          clear c4
          obtain rfl := Option.some.inj H
          go_wp2
          go_ret
          exact ⟨by first | rfl | (simp [errW_none, errW_some] <;> rfl) | (simp [*, errW_none, errW_some] <;> rfl), by repeat (first | (with_reducible first | exact HB.out | apply below_alloc | apply pw_below_drewN | apply below_drew1) | exact HB.out)⟩
  · rw [if_neg c3] at H
    have c3b0 : ((l0.length : Int) == (l1.length : Int)) = false := beq_eq_false_iff_ne.mpr c3
    have c3b1 : ((l0.length : Int) != (l1.length : Int)) = true := bne_iff_ne.mpr c3
    have c3b2 : (l0.length == l1.length) = false := by first | simpa using c3 | (simp at c3 ⊢; omega)
    obtain rfl := Option.some.inj H
    go_enter Tryd.func20, Tryd.ntmps20
    go_wp2
    go_ret
    exact ⟨by first | rfl | (simp [errW_none, errW_some] <;> rfl) | (simp [*, errW_none, errW_some] <;> rfl), by repeat (first | (with_reducible first | exact HB.out | apply below_alloc | apply pw_below_drewN | apply below_drew1) | exact HB.out)⟩
end Go.Proofs.YtiapfhlipoomaaaDoor.Print
end
section
namespace Go.Proofs.YtiapfhlipoomaaaDoor.Given
open Go.RowKit Go.Proofs.YtiapfhlipoomaaaDoorW.PrintWords Go.Proofs.YtiapfhlipoomaaaDoorW.PrintLast Go.Proofs.YtiapfhlipoomaaaDoorW.PrintMore Go.Proofs.YtiapfhlipoomaaaDoor.Print
set_option linter.unusedVariables false
set_option linter.unusedSimpArgs false
theorem sames_loop (l : List Int) (hl : l.length ≤ 4611686018427387904) : ∀ (n : Nat) (i : Int), 0 ≤ i → (l.length : Int) - i ≤ n → squintlaw18_sameInts.l0 (n + 1) l l i = some true
  | 0, i, h0, h => by
    unfold squintlaw18_sameInts.l0
    rw [if_neg (by omega)]
  | n + 1, i, h0, h => by
    unfold squintlaw18_sameInts.l0
    by_cases hi : i < (l.length : Int)
    · rw [if_pos hi, if_pos h0, if_pos hi, if_pos rfl, show wrap64 (i + 1) = i + 1 by simp only [wrap64]; omega]
      exact sames_loop l hl n _ (by omega) (by omega)
    · rw [if_neg hi]
theorem sames_self (l : List Int) (hl : l.length ≤ 4611686018427387904) (k : Nat) (hk : l.length < k) : squintlaw18_sameInts.f k l l = some true := by
  obtain ⟨n, rfl⟩ : ∃ n, k = n + 1 := ⟨k - 1, by omega⟩
  unfold squintlaw18_sameInts.f
  rw [if_pos rfl]
  exact sames_loop l hl n 0 (by omega) (by omega)
theorem samee_loop (l : List S24) (M : Nat) (hl : l.length ≤ 4611686018427387904) (hM : ∀ x ∈ l, x.f7.length < M ∧ x.f7.length ≤ 4611686018427387904) : ∀ (n : Nat) (i : Int), 0 ≤ i → (l.length : Int) - i ≤ n → squintlaw18_sameEvents.l0 (n + 1 + M) l l i = some true
  | 0, i, h0, h => by
    rw [show 0 + 1 + M = M + 1 by omega]
    unfold squintlaw18_sameEvents.l0
    rw [if_neg (by omega)]
  | n + 1, i, h0, h => by
    rw [show n + 1 + 1 + M = (n + 1 + M) + 1 by omega]
    unfold squintlaw18_sameEvents.l0
    by_cases hi : i < (l.length : Int)
    · have hm : rd_T24 l i ∈ l := by
        have hlt : i.toNat < l.length := by omega
        have : rd_T24 l i = l[i.toNat] := by simp [rd_T24, hlt]
        rw [this]
        exact List.getElem_mem hlt
      obtain ⟨h1, h2⟩ := hM _ hm
      rw [if_pos hi, if_pos h0, if_pos hi]
      unfold squintlaw18_sameEvent.f
      rw [if_pos rfl, if_pos rfl, if_pos rfl, if_pos rfl, if_pos rfl, if_pos rfl, if_pos rfl, sames_self _ h2 _ (by omega)]
      simp only [Option.bind_some, if_true]
      rw [show wrap64 (i + 1) = i + 1 by simp only [wrap64]; omega]
      exact samee_loop l M hl hM n _ (by omega) (by omega)
    · rw [if_neg hi]
theorem samee_self (l : List S24) (hl : l.length ≤ 4611686018427387904) (hM : ∀ x ∈ l, x.f7.length ≤ 4611686018427387904) : ∃ k, squintlaw18_sameEvents.f k l l = some true := by
  refine ⟨l.length + 1 + 4611686018427387905, ?_⟩
  unfold squintlaw18_sameEvents.f
  rw [if_pos rfl]
  exact samee_loop l _ hl (fun x hx => ⟨by have := hM x hx; omega, hM x hx⟩) l.length 0 (by omega) (by omega)
end Go.Proofs.YtiapfhlipoomaaaDoor.Given
end
section
namespace Go.Proofs.YtiapfhlipoomaaaDoor.Given
open Go.RowKit Go.Proofs.YtiapfhlipoomaaaDoorW.PrintWords Go.Proofs.YtiapfhlipoomaaaDoorW.PrintLast Go.Proofs.YtiapfhlipoomaaaDoorW.PrintMore Go.Proofs.YtiapfhlipoomaaaDoor.Print
set_option linter.unusedVariables false
set_option linter.unusedSimpArgs false
theorem add_zero_at (b m : Nat) : (⟨b, 0, none⟩ : Addr).add m = ⟨b, m, none⟩ := by
  simp [Addr.add]
  exact Eq.symm
theorem lent_form {w : World} {base : Nat} {l : List S24} {v0 v1 : Value} (h : Lent w base l [zrow] v0 v1) : ∃ ga ca A1 c1, v0 = .slice (some ⟨ga, 0, none⟩) (l.length + 1) ca ∧ v1 = .slice A1 l.length c1 ∧ l.length + 1 ≤ ca ∧ base ≤ ga := by
  obtain ⟨rows0, rows1, l0, l1, h0, h1, h2⟩ := h
  obtain ⟨ga, ca, rfl, hb, _⟩ := Kd.R_form h0 (by simp)
  obtain ⟨A1, c1, rfl⟩ := Kd.R_slice h1
  obtain ⟨_, hc, _⟩ := Kd.R_reads' h0
  have e : (rows0 ++ [zrow]).length = l.length + 1 := by rw [List.length_append, l0]; rfl
  rw [e] at hc ⊢
  exact ⟨ga, ca, A1, c1, rfl, by rw [l1], hc, hb⟩
theorem lent_last {w : World} {base ga ca n : Nat} {l : List S24} {v1 : Value} (h : Lent w base l [zrow] (.slice (some ⟨ga, 0, none⟩) n ca) v1) : w.cell? ⟨ga, l.length * 8, none⟩ = some (.int .i64 (-9)) := by
  obtain ⟨rows0, rows1, l0, l1, h0, h1, h2⟩ := h
  have hr : (rows0 ++ [zrow])[l.length]? = some zrow := by rw [List.getElem?_append_right (by omega), l0, Nat.sub_self]; rfl
  exact lent_cell0 h0 hr 0 _ rfl
theorem lent_list {w : World} {base : Nat} {l : List S24} {v0 : Value} {A1 : Option Addr} {n c1 : Nat} (h : Lent w base l [zrow] v0 (.slice A1 n c1)) (j : Nat) (x : S24) (hx : l[j]? = some x) :
    ∃ gb b c, A1 = some ⟨gb, 0, none⟩ ∧ w.cell? ⟨gb, j, none⟩ = some (.slice (some ⟨b, 0, none⟩) (x.f7.length + 1) c) ∧ Kd.C (Kd.int .i64) w (some ⟨b, 0, none⟩) x.f7.length x.f7 ∧ x.f7.length + 1 ≤ c ∧ w.cell? ⟨b, x.f7.length, none⟩ = some (.int .i64 (-77)) := by
  obtain ⟨rows0, rows1, l0, l1, h0, h1, h2⟩ := h
  obtain ⟨b, c, r0, r1, hR⟩ := h2 j x hx
  have hj := (List.getElem?_eq_some_iff.1 hx).1
  obtain ⟨gb, cb, e, _⟩ := Kd.R_form h1 (by omega)
  injection e with e1 e2 e3
  subst e1
  obtain ⟨hC, hc⟩ := int_take hR
  obtain ⟨hn, hcc, hC2⟩ := Kd.R_reads' hR
  obtain ⟨ad, ha, hcell⟩ := Kd.at_int hC2 (x.f7.length : Int) (by omega) (by omega)
  cases ha
  refine ⟨gb, b, c, rfl, lent_cell1 h1 r1, hC, hcc, ?_⟩
  rw [Int.toNat_natCast] at hcell
  rw [add_zero_at] at hcell
  rw [hcell]
  simp [rd]
set_option maxRecDepth 100000 in
set_option maxHeartbeats 4000000 in
theorem still_any (A : Option Addr) (cp : Nat) (l : List S24) (base : Nat) (v0 v1 : Value) (w : World) (hr : Kd.C k24 w A l.length l) (hc : l.length ≤ cp) (hlt : Lent w base l [zrow] v0 v1) (hlen : l.length ≤ 1000000000) (hln : ∀ x ∈ l, x.f7.length ≤ 1000000000) :
    Calls Tryd.prog 16 #[.agg #[v0, v1], .slice A l.length cp] w fun e w' => e = .returned (.bool true) ∧ Below w.heap.size w w' := by
  obtain ⟨ga, ca, A1, c1, rfl, rfl, hca, _⟩ := lent_form hlt
  obtain ⟨ks, hks⟩ := samee_self l (by omega) (fun x hx => by have := hln x hx; omega)
  have hu24 := Tryd.underlying24
  have hu33 := Tryd.underlying33
  have HR := Aside0.mk hr
  have HC := Aside0.mk hc
  have HLT := Aside0.mk hlt
  have HLN := Aside0.mk hln
  have HKS := Aside0.mk hks
  have HCA := Aside0.mk (show l.length ≤ ca by omega)
  have HB := Aside0.mk (Below.refl w.heap.size w)
  clear hr hc hlt hln hks
  go_enter Tryd.func16, Tryd.ntmps16
  go_wp2_with (first
    | ((with_reducible refine gate_dst (N := 2) rfl ?_); refine box_event ?hg (N := 2) ?hd (cs := #[(.slice (some ⟨ga, 0, none⟩) (l.length + 1) ca), .slice A1 l.length c1]) (t := 33) ?hr ?_; (case hd => rfl); (case hg => rfl); (case hr => first | (go_simp; done) | (go_simp; rfl)); intro g2 hg w2 hbox hb; have n0_ := Aside0.mk (below_step HB.out hb); clear HB; have HB := n0_; clear n0_; have BX := Aside0.mk hbox; clear hbox hb hg; have x0 : w2.cell? ⟨g2, 0, none⟩ = some (.slice (some ⟨ga, 0, none⟩) (l.length + 1) ca) := (blk_cell BX.out 0).trans rfl)
    | (go_at_call 20; refine (squintlaw18_sameEvents.calls ks (some ⟨ga, 0, none⟩) ca l A cp l true _ (lent_C (HLT.out.below HB.out)) HCA.out (Kd.C_below HR.out HB.out) HC.out HKS.out).mono ?_; rintro e w3 ⟨rfl, hb⟩; have n0_ := Aside0.mk (below_step HB.out hb); have n1_ := Aside0.mk (blk_below BX.out hb); clear HB BX hb x0; have HB := n0_; have BX := n1_; clear n0_ n1_; have x0 : w3.cell? ⟨g2, 0, none⟩ = some (.slice (some ⟨ga, 0, none⟩) (l.length + 1) ca) := (blk_cell BX.out 0).trans rfl; have y0 : w3.cell? ⟨ga, l.length * 8, none⟩ = some (.int .i64 (-9)) := lent_last (HLT.out.below HB.out)))
  go_loopw [6] (fun v6 wr => ∃ j : Nat, v6 = .int .i64 j ∧ j ≤ l.length ∧ Aside0 (wr.heap[g2]? = some (.cells #[(.slice (some ⟨ga, 0, none⟩) (l.length + 1) ca), .slice A1 l.length c1] 33 (0, 0))) ∧ Aside0 (Below w.heap.size w wr)) (fun v6 _ => l.length - (intOf v6).toNat)
  case atStart => exact ⟨0, rfl, by omega, BX, HB⟩
  case round =>
    clear BX HB x0 y0
    obtain ⟨j, rfl, hj, BX, HB⟩ := hrel
    obtain ⟨wo, rfl⟩ : ∃ wo : World, wo = wr := ⟨_, rfl⟩
    by_cases hlt : j < l.length
    · obtain ⟨x, hx⟩ : ∃ x, l[j]? = some x := ⟨_, List.getElem?_eq_getElem hlt⟩
      obtain ⟨ad, A7, c7, rfl, h7, hC7, hrow⟩ := ev_at HR.out j x hx
      have hxl := HLN.out x (List.mem_of_getElem? hx)
      obtain ⟨gb, b, cb, rfl, hl1, hCb, hcb, hl2⟩ := lent_list (HLT.out.below HB.out) j x hx
      have HC7 := Aside0.mk (Kd.C_below hC7 HB.out)
      have HCB := Aside0.mk hCb
      have H7 := Aside0.mk h7
      have hcb2 : x.f7.length ≤ cb := by omega
      have HSI := Aside0.mk (sames_self x.f7 (by omega) (x.f7.length + 1) (by omega))
      have q7 : wo.cell? ⟨(ad.add (j * 8)).block, (ad.add (j * 8)).off + 7, none⟩ = some (.slice A7 x.f7.length c7) := by rw [← add_field _ _ 7 (by omega)]; exact pw_cell_below HB.out (hrow 7 _ rfl)
      have x1 : wo.cell? ⟨g2, 1, none⟩ = some (.slice (some ⟨gb, 0, none⟩) l.length c1) := (blk_cell BX.out 1).trans rfl
      clear hrow h7 hC7 hx hCb
      go_wp2_with (fail)
      go_quiet ((go_at_call 36; exact Calls.quiet_of ((squintlaw18_sameInts.calls (x.f7.length + 1) _ _ x.f7 _ _ x.f7 true _ (Kd.C_drewN HCB.out _) hcb2 (Kd.C_drewN HC7.out _) H7.out HSI.out).mono fun _ _ h => ⟨h.1, h.2.out⟩)))
      go_wp2_with (fail)
      go_roundw
      case rel => exact ⟨j + 1, by go_num, by omega, ⟨BX.out⟩, ⟨pw_below_drewN HB.out _⟩⟩
      case measure => simp [intOf]; omega
    · obtain rfl : j = l.length := by omega
      go_wp2_with (fail)
      go_returns
      exact ⟨rfl, HB.out⟩
def Inner (w : World) (base : Nat) (rows : List (List Value)) : Prop := ∀ (j : Nat) (r : List Value), rows[j]? = some r → ∃ b c m xs, r = [.slice (some ⟨b, 0, none⟩) m c] ∧ w.ownsRow base 3 1 (.slice (some ⟨b, 0, none⟩) m c) m xs
theorem own_typed3 {w : World} {base b m c : Nat} {xs : List Value} (h : w.ownsRow base 3 1 (.slice (some ⟨b, 0, none⟩) m c) m xs) : ∃ cs, w.heap[b]? = some (.cells cs 3 (0, 0)) ∧ base ≤ b := by
  rcases h.2 with ⟨h1, _⟩ | ⟨g, cap, cur, h1, h2, h3, _⟩
  · cases h1
  · injection h1 with h1
    injection h1 with h1
    injection h1 with h1
    subst h1
    exact ⟨cur, h3, h2⟩
theorem Inner.below {w w1 : World} {base : Nat} {rows : List (List Value)} (h : Inner w base rows) (hb : Below w.heap.size w w1) : Inner w1 base rows := fun j r hj => by
  obtain ⟨b, c, m, xs, h1, h2⟩ := h j r hj
  refine ⟨b, c, m, xs, h1, ?_⟩
  obtain ⟨cs, hc, _⟩ := own_typed3 h2
  rcases h2 with ⟨hl, h2⟩
  refine ⟨hl, ?_⟩
  rcases h2 with h2 | ⟨g, cap, cur, e, e1, e2, e3⟩
  · exact .inl h2
  · exact .inr ⟨g, cap, cur, e, e1, blk_below e2 hb, e3⟩
theorem Inner.set {w : World} {base b k c m : Nat} {rows : List (List Value)} {xs : List Value} (h : Inner w base rows) (hb : w.ownsRow base 3 1 (.slice (some ⟨b, 0, none⟩) m c) m xs) (u : Value) : Inner (w.setCell ⟨b, k, none⟩ u) base rows := fun j r hj => by
  obtain ⟨b1, c1, m1, xs1, h1, h2⟩ := h j r hj
  by_cases hbb : b1 = b
  · subst hbb
    exact ⟨b1, c1, m1, _, h1, (h2.stored k u).1⟩
  · exact ⟨b1, c1, m1, xs1, h1, ownsRow_setCell_other h2 (by simp [Value.ownBlock]; exact hbb) u⟩
theorem lent_inner {w : World} {base : Nat} {l : List S24} {extra : List (List Value)} {v0 v1 : Value} (h : Lent w base l extra v0 v1) : ∃ rows0 rows1 : List (List Value), rows1.length = l.length ∧ rows0.length = l.length ∧ (Kd.raw 8).R 24 w base Any v0 (rows0 ++ extra) ∧ (Kd.raw 1).R 22 w base Any v1 rows1 ∧ Inner w base rows1 := by
  obtain ⟨rows0, rows1, l0, l1, h0, h1, h2⟩ := h
  refine ⟨rows0, rows1, l1, l0, h0, h1, fun j r hj => ?_⟩
  have hjl := (List.getElem?_eq_some_iff.1 hj).1
  obtain ⟨b, c, _, r1, hR⟩ := h2 j (l[j]'(by omega)) (List.getElem?_eq_getElem (by omega))
  obtain ⟨inner, ho⟩ := Kd.R_own hR
  rw [r1] at hj
  injection hj with hj
  have e : ((l[j]'(by omega)).f7 ++ [-77]).length = (l[j]'(by omega)).f7.length + 1 := by simp
  rw [e] at ho
  exact ⟨b, c, _, inner, hj.symm, ho⟩
theorem below_setG {base g : Nat} {w w1 : World} (h : Below base w w1) (hg : base ≤ g) (j : Nat) (u : Value) : Below base w (w1.setCell ⟨g, j, none⟩ u) :=
  ⟨h.os, h.tape, h.output, by simpa [World.setCell] using h.size, fun k hk => (Below.heap_setCell w1 ⟨g, j, none⟩ u k (by show k ≠ g; omega)).trans (h.block k hk)⟩
theorem blk_neR {w : World} {base ga n ca g t : Nat} {rows : List (List Value)} {cs : Array Value} (h : (Kd.raw 8).R 24 w base Any (.slice (some ⟨ga, 0, none⟩) n ca) rows) (hb : w.heap[g]? = some (.cells cs t (0, 0))) (ht : 24 ≠ t) : g ≠ ga := fun he => Kd.R_ne h hb ht (by rw [he]; rfl)
theorem setRaw (x : S24) (c : List Value) (hc : c.length = 8) : c.take 0 ++ (evC x (.slice none 0 0)).toList ++ c.drop (0 + (evC x (.slice none 0 0)).toList.length) = (evC x (.slice none 0 0)).toList := by
  rw [List.take_zero, List.nil_append, List.drop_eq_nil_of_le (by show c.length ≤ 0 + 8; omega), List.append_nil]
set_option maxRecDepth 100000 in
set_option maxHeartbeats 4000000 in
theorem wipe_any (l : List S24) (base : Nat) (v0 v1 : Value) (w : World) (hlt : Lent w base l [zrow] v0 v1) (hbase : base ≤ w.heap.size) (hlen : l.length ≤ 1000000000) :
    Calls Tryd.prog 17 #[.agg #[v0, v1]] w fun e w' => e = .returned (.tuple #[]) ∧ Below base w w' := by
  obtain ⟨ga, ca, A1, c1, rfl, rfl, hca, hga⟩ := lent_form hlt
  obtain ⟨rows0, rows1, lr1, lr0, h0, h1, h2⟩ := lent_inner hlt
  have hu24 := Tryd.underlying24
  have hu33 := Tryd.underlying33
  have HBS := Aside0.mk hbase
  have HGA := Aside0.mk hga
  have HB := Aside0.mk (Below.refl base w)
  go_enter Tryd.func17, Tryd.ntmps17
  go_wp2_with (first
    | ((with_reducible refine gate_dst (N := 1) rfl ?_); refine box_event ?hg (N := 1) ?hd (cs := #[(.slice (some ⟨ga, 0, none⟩) (l.length + 1) ca), (.slice A1 l.length c1)]) (t := 33) ?hr ?_; (case hd => rfl); (case hg => rfl); (case hr => first | (go_simp; done) | (go_simp; rfl)); intro g1 hg w2 hbox hb; have HB1 := Aside0.mk hb; clear HB; have HB := Aside0.mk (hb.mono HBS.out); have BX := Aside0.mk hbox; clear hbox hb hg; have x1 : w2.cell? ⟨g1, 1, none⟩ = some (.slice A1 l.length c1) := (blk_cell BX.out 1).trans rfl))
  have HV0 := Aside0.mk (Kd.R_below h0 HB1.out)
  have HV1 := Aside0.mk (Kd.R_below h1 HB1.out)
  have HI := Aside0.mk (h2.below HB1.out)
  have LR1 := Aside0.mk lr1
  have hlz : (rows0 ++ [zrow]).length = l.length + 1 := by rw [List.length_append, lr0]; rfl
  obtain ⟨rz, hrz⟩ : ∃ rz, rz = rows0 ++ [zrow] := ⟨_, rfl⟩
  rw [← hrz] at HV0 hlz
  have HLZ := Aside0.mk hlz
  clear h0 h1 h2 HB1 lr1 lr0 hlt hbase hga hca hlz hrz
  go_loopw [2] (fun v2 wr => ∃ j : Nat, v2 = .int .i64 j ∧ j ≤ l.length ∧ Aside0 (wr.heap[g1]? = some (.cells #[(.slice (some ⟨ga, 0, none⟩) (l.length + 1) ca), (.slice A1 l.length c1)] 33 (0, 0))) ∧ Aside0 ((Kd.raw 8).R 24 wr base Any (.slice (some ⟨ga, 0, none⟩) (l.length + 1) ca) rz) ∧ Aside0 ((Kd.raw 1).R 22 wr base Any (.slice A1 l.length c1) rows1) ∧ Aside0 (Inner wr base rows1) ∧ Aside0 (Below base w wr)) (fun v2 _ => l.length - (intOf v2).toNat)
  case atStart => exact ⟨0, rfl, by omega, BX, HV0, HV1, HI, HB⟩
  case round =>
    clear BX HV0 HV1 HI HB x1
    obtain ⟨j, rfl, hj, BX, HV0, HV1, HI, HB⟩ := hrel
    obtain ⟨wo, rfl⟩ : ∃ wo : World, wo = wr := ⟨_, rfl⟩
    have x1 : wo.cell? ⟨g1, 1, none⟩ = some (.slice A1 l.length c1) := (blk_cell BX.out 1).trans rfl
    by_cases hlt : j < l.length
    · have hrj : rows1[j]? = some (rows1[j]'(by have := LR1.out; omega)) := List.getElem?_eq_getElem (by have := LR1.out; omega)
      obtain ⟨b, cb, m, xs, hr1, hown⟩ := HI.out j _ hrj
      rw [hr1] at hrj
      obtain ⟨gb, cb1, e, _⟩ := Kd.R_form HV1.out (by have := LR1.out; omega)
      injection e with e1 e2 e3
      subst e1
      have HRJ := Aside0.mk hrj
      have hm : m ≤ 9223372036854775807 := by
        rcases hown.2 with ⟨q, _⟩ | ⟨g, cap, cur, q, _, _, q1, q2, _⟩
        · cases q
        · unfold maxLen at q2; omega
      clear hown hr1 hrj e2 e3
      go_wp2_with (fail)
      go_loopw [3] (fun v3 wr => ∃ k : Nat, v3 = .int .i64 k ∧ k ≤ m ∧ Aside0 (wr.heap[g1]? = some (.cells #[(.slice (some ⟨ga, 0, none⟩) (l.length + 1) ca), (.slice (some ⟨gb, 0, none⟩) l.length c1)] 33 (0, 0))) ∧ Aside0 ((Kd.raw 8).R 24 wr base Any (.slice (some ⟨ga, 0, none⟩) (l.length + 1) ca) rz) ∧ Aside0 ((Kd.raw 1).R 22 wr base Any (.slice (some ⟨gb, 0, none⟩) l.length c1) rows1) ∧ Aside0 (Inner wr base rows1) ∧ Aside0 (Below base w wr)) (fun v3 _ => m - (intOf v3).toNat)
      case atStart => exact ⟨0, rfl, by omega, BX, HV0, HV1, HI, HB⟩
      case round =>
        clear BX HV0 HV1 HI HB x1
        obtain ⟨k, rfl, hk, BX, HV0, HV1, HI, HB⟩ := hrel
        obtain ⟨wi, rfl⟩ : ∃ wi : World, wi = wr := ⟨_, rfl⟩
        have x1 : wi.cell? ⟨g1, 1, none⟩ = some (.slice (some ⟨gb, 0, none⟩) l.length c1) := (blk_cell BX.out 1).trans rfl
        have x2 : wi.cell? ⟨gb, j, none⟩ = some (.slice (some ⟨b, 0, none⟩) m cb) := lent_cell1 HV1.out HRJ.out
        by_cases hkm : k < m
        · obtain ⟨b', cb', m', xs, hr1, hown⟩ := HI.out j _ HRJ.out
          injection hr1 with hr1
          injection hr1 with e1 e2 e3
          injection e1 with e1
          injection e1 with e1
          subst e1 e2 e3
          have HOW := Aside0.mk hown
          have hxl : xs.length = m := by have := hown.1; omega
          obtain ⟨u, hu⟩ : ∃ u, xs[k]? = some u := ⟨_, List.getElem?_eq_getElem (by omega)⟩
          have x3 : wi.cell? ⟨b, k, none⟩ = some u := (hown.cellAt k (by omega)).trans hu
          have f3 : wi.frozen? ⟨b, k, none⟩ = false := hown.frozenAt k
          obtain ⟨cs3, ht3, hb3⟩ := own_typed3 hown
          have HT3 := Aside0.mk ht3
          have HB3 := Aside0.mk hb3
          clear hown hxl ht3 hb3 hu
          go_wp2_with (fail)
          go_roundw
          case rel => exact ⟨k + 1, by go_num, by omega, ⟨blk_far BX.out (blk_ne BX.out HT3.out (by decide)) _⟩, ⟨Kd.R_set HV0.out HT3.out (by decide) _ _⟩, ⟨Kd.R_set HV1.out HT3.out (by decide) _ _⟩, ⟨HI.out.set HOW.out _⟩, ⟨below_setG HB.out HB3.out _ _⟩⟩
          case measure => simp [intOf]; omega
        · obtain rfl : k = m := by omega
          go_wp2_with (fail)
          go_roundw
          case rel => exact ⟨j + 1, by go_num, by omega, BX, HV0, HV1, HI, HB⟩
          case measure => simp [intOf]; omega
    · obtain rfl : j = l.length := by omega
      go_wp2_with (fail)
      go_loopw [4] (fun v4 wr => ∃ (i : Nat) (rows : List (List Value)), v4 = .int .i64 i ∧ i ≤ l.length + 1 ∧ Aside0 (rows.length = l.length + 1) ∧ Aside0 (wr.heap[g1]? = some (.cells #[(.slice (some ⟨ga, 0, none⟩) (l.length + 1) ca), (.slice A1 l.length c1)] 33 (0, 0))) ∧ Aside0 ((Kd.raw 8).R 24 wr base Any (.slice (some ⟨ga, 0, none⟩) (l.length + 1) ca) rows) ∧ Aside0 (Below base w wr)) (fun v4 _ => l.length + 1 - (intOf v4).toNat)
      case atStart => exact ⟨0, rz, rfl, by omega, HLZ, BX, HV0, HB⟩
      case round =>
        clear BX HV0 HV1 HI HB x1
        obtain ⟨i, rows, rfl, hi, HRL, BX, HV0, HB⟩ := hrel
        obtain ⟨wi, rfl⟩ : ∃ wi : World, wi = wr := ⟨_, rfl⟩
        have x0 : wi.cell? ⟨g1, 0, none⟩ = some (.slice (some ⟨ga, 0, none⟩) (l.length + 1) ca) := (blk_cell BX.out 0).trans rfl
        by_cases hil : i < l.length + 1
        · obtain ⟨c, hcl, _, hcc, _⟩ := Kd.R_elem HV0.out [] (i : Int) (by omega) (by omega)
          have HCL := Aside0.mk (show c.length = 8 from hcl)
          have HCCX := Aside0.mk hcc
          clear hcl hcc
          go_wp2_with (refine Kd.R_store (Kd.raw 8) (w0 := w) base rfl rfl 24 (.tmp 40) (.tmp 39) rfl 24 (g := ga) (n := l.length + 1) (cap := ca) (o' := i * 8) (i : Int) 0 rows (evC ⟨-6, 0, 0, 0, 0, 0, 0, []⟩ (.slice none 0 0)).toList (.agg (evC ⟨-6, 0, 0, 0, 0, 0, 0, []⟩ (.slice none 0 0))) (evC ⟨-6, 0, 0, 0, 0, 0, 0, []⟩ (.slice none 0 0)).toList c Any (fun _ => False) rfl (by rw [Int.toNat_natCast]; rfl) rfl rfl (by kernel_rfl) (evC_raw ⟨-6, 0, 0, 0, 0, 0, 0, []⟩ none 0 0 wi base Any).2.2 HV0.out (by omega) (by omega) HCL.out HCCX.out (by decide) ?hM (fun _ hk => hk.elim) HB.out ?_; (case hM => rw [setRaw _ _ HCL.out]; exact evC_raw ⟨-6, 0, 0, 0, 0, 0, 0, []⟩ none 0 0 wi base _); intro w5 ho hb hg_; have HV := Aside0.mk ho; have n0_ := Aside0.mk (blk_grown BX.out hg_ (by intro h; injection h with h; exact blk_neR HV0.out BX.out (by decide) h)); clear HV0 HB BX x0; have HV0 := HV; have HB := Aside0.mk hb; have BX := n0_; clear HV n0_ ho hb hg_)
          go_roundw
          case rel => exact ⟨i + 1, _, by go_num, by omega, ⟨by rw [List.length_set]; exact HRL.out⟩, BX, HV0, HB⟩
          case measure => simp [intOf]; omega
        · obtain rfl : i = l.length + 1 := by omega
          go_wp2_with (fail)
          go_returns
          exact ⟨rfl, HB.out⟩
end Go.Proofs.YtiapfhlipoomaaaDoor.Given
end
section
namespace Go.Proofs.YtiapfhlipoomaaaDoor.Given
open Go.RowKit Go.Proofs.YtiapfhlipoomaaaDoorW.PrintWords Go.Proofs.YtiapfhlipoomaaaDoorW.PrintLast Go.Proofs.YtiapfhlipoomaaaDoorW.PrintMore Go.Proofs.YtiapfhlipoomaaaDoor.Print
set_option linter.unusedVariables false
set_option linter.unusedSimpArgs false
def shEvs : List S24 := [⟨1, 0, 0, 1, 0, 0, 0, []⟩, ⟨2, 1, 0, 0, 0, 3, 0, []⟩, ⟨9, 0, 0, 0, 0, 0, 0, [0, 2]⟩, ⟨6, 2, 0, 0, 0, 0, 2, []⟩, ⟨8, 0, 0, 0, 0, 0, 0, []⟩]
theorem sh_print : printOf shEvs = (⟨#[98, 111, 114, 110, 32, 48, 32, 49, 10, 109, 101, 101, 116, 32, 49, 32, 48, 32, 48, 32, 48, 32, 51, 10, 112, 114, 111, 98, 101, 32, 48, 32, 50, 10, 116, 114, 97, 112, 32, 50, 32, 105, 110, 100, 101, 120, 10, 105, 100, 108, 101, 10]⟩, 0) := by kernel_rfl
theorem sh_size : (textOf shEvs).size ≤ 1099511627776 := by decide +kernel
theorem sh_parse : parseOf ⟨#[101, 120, 105, 116, 32, 48, 10, 101, 120, 105, 116, 32, 48, 48, 10]⟩ = ([], 2, 180) := by kernel_rfl
theorem sh_rng : ∀ x ∈ shEvs, rngX x := by
  intro x hx
  simp only [shEvs, List.mem_cons, List.not_mem_nil, or_false] at hx
  rcases hx with rfl | rfl | rfl | rfl | rfl <;> refine ⟨fun o ho => ?_, fun n hn => ?_⟩ <;> first | (rcases o with _ | _ | _ | _ | _ | _ | _ | o <;> first | (show -9223372036854775808 ≤ (_ : Int) ∧ (_ : Int) ≤ 9223372036854775807; decide) | omega) | (simp at hn; try (rcases hn with rfl | rfl <;> decide))
theorem sh_check : checkOf ⟨5, -1, 0, 0, 0, 0, 0, []⟩ = 180 := by kernel_rfl
set_option maxRecDepth 100000 in
set_option maxHeartbeats 4000000 in
theorem shown_true (w : World) (hL : LW w) : Calls Tryd.prog 9 #[] w fun e w' => e = .returned (.bool true) ∧ Below w.heap.size w w' := by
  have hu24 := Tryd.underlying24
  have HL := Aside0.mk hL
  have HB := Aside0.mk (Below.refl w.heap.size w)
  clear hL
  go_enter Tryd.func9, Tryd.ntmps9
  go_wp2_with (first
    | ((with_reducible refine gate_dst (N := 9) rfl ?_); refine Kd.R_lit (Kd.int .i64) (w0 := w) w.heap.size 3 ?hg (N := 9) ?hd (xs := ([0, 2] : List Int)) (inner := [.int .i64 0, .int .i64 2]) (ok := fun _ => True) (okp := fun _ => True) ?hr ?hp (fun _ hk => hk) trivial ?hb ?hs (by simp) ?_; (case hd => rfl); (case hg => rfl); (case hr => first | (go_simp; done) | (go_simp; rfl)); (case hp => exact (Reps.one (show Kd.M (Kd.int .i64) _ _ _ (0 : Int) [.int .i64 0] from rfl) (Reps.one (show Kd.M (Kd.int .i64) _ _ _ (2 : Int) [.int .i64 2] from rfl) (Reps.none _ _)))); (case hb => exact HB.out); (case hs => exact HB.out.size); intro v9 w9 ho hb hg_ hn_; obtain ⟨A9, c9, rfl⟩ := Kd.R_slice ho; have HR9 := Aside0.mk ho; clear HB; have HB := Aside0.mk hb; clear ho hb hg_ hn_)
    | ((with_reducible refine gate_dst (N := 13) rfl ?_); refine Kd.R_lit k24 (w0 := w) w.heap.size 24 ?hg (N := 13) ?hd (xs := ([⟨1, 0, 0, 1, 0, 0, 0, []⟩, ⟨2, 1, 0, 0, 0, 3, 0, []⟩, ⟨9, 0, 0, 0, 0, 0, 0, [0, 2]⟩, ⟨6, 2, 0, 0, 0, 0, 2, []⟩, ⟨8, 0, 0, 0, 0, 0, 0, []⟩] : List S24)) (inner := [.int .i64 1, .int .i64 0, .int .i64 0, .int .i64 1, .int .i64 0, .int .i64 0, .int .i64 0, .slice none 0 0, .int .i64 2, .int .i64 1, .int .i64 0, .int .i64 0, .int .i64 0, .int .i64 3, .int .i64 0, .slice none 0 0, .int .i64 9, .int .i64 0, .int .i64 0, .int .i64 0, .int .i64 0, .int .i64 0, .int .i64 0, .slice A9 2 c9, .int .i64 6, .int .i64 2, .int .i64 0, .int .i64 0, .int .i64 0, .int .i64 0, .int .i64 2, .slice none 0 0, .int .i64 8, .int .i64 0, .int .i64 0, .int .i64 0, .int .i64 0, .int .i64 0, .int .i64 0, .slice none 0 0]) (ok := fun _ => True) (okp := fun _ => True) ?hr ?hp (fun _ hk => hk) trivial ?hb ?hs (by simp) ?_; (case hd => rfl); (case hg => rfl); (case hr => first | (go_simp; done) | (go_simp; rfl)); (case hp => exact (Reps.c8 (k24_mkM _ _ _ ⟨1, 0, 0, 1, 0, 0, 0, []⟩ (Kd.R_nil _ _ _ _ _)) (Reps.c8 (k24_mkM _ _ _ ⟨2, 1, 0, 0, 0, 3, 0, []⟩ (Kd.R_nil _ _ _ _ _)) (Reps.c8 (k24_mkM _ _ _ ⟨9, 0, 0, 0, 0, 0, 0, [0, 2]⟩ HR9.out) (Reps.c8 (k24_mkM _ _ _ ⟨6, 2, 0, 0, 0, 0, 2, []⟩ (Kd.R_nil _ _ _ _ _)) (Reps.c8 (k24_mkM _ _ _ ⟨8, 0, 0, 0, 0, 0, 0, []⟩ (Kd.R_nil _ _ _ _ _)) (Reps.none _ _))))))); (case hb => exact HB.out); (case hs => exact HB.out.size); intro v13 w13 ho hb hg_ hn_; obtain ⟨A13, c13, rfl⟩ := Kd.R_slice ho; have HR13 := Aside0.mk ho; have m_ := Aside0.mk (Kd.R_grown HR9.out hg_ (fun _ _ => by simp)); clear HR9; have HR9 := m_; clear m_; clear HB; have HB := Aside0.mk hb; clear ho hb hg_ hn_)
    | (go_at_call 14; refine (print_any A13 c13 shEvs _ (Kd.R_reads' HR13.out).2.2 (HL.out.below HB.out) sh_rng sh_size).mono ?_; rw [sh_print]; rintro e wa ⟨rfl, hb⟩; have n3_ := Aside0.mk (below_then HB.out HB.out.size hb); clear HB hb HR13 HR9; have HB := n3_; clear n3_)
    | (go_at_call 18; refine (parse_any _ _ (HL.out.below HB.out) (by decide)).mono ?_; rw [sh_parse]; rintro e wb ⟨Ab, cb, rfl, _, hb⟩; have n3_ := Aside0.mk (below_then HB.out HB.out.size hb); clear HB hb; have HB := n3_; clear n3_)
    | (go_at_call 10; refine (chk_any ⟨5, -1, 0, 0, 0, 0, 0, []⟩ none 0 _ (Kd.C_nil _ _) (Nat.le_refl _)).mono ?_; rw [sh_check]; rintro e wc ⟨rfl, hb⟩; have n3_ := Aside0.mk (below_then HB.out HB.out.size hb); clear HB hb; have HB := n3_; clear n3_))
  go_ret
  exact ⟨rfl, HB.out⟩
end Go.Proofs.YtiapfhlipoomaaaDoor.Given
end
