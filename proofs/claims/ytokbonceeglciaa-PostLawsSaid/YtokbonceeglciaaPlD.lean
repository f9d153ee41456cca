/- Lemmas for the claim (what no proof of it names is left out). -/
import Derived.Test.YtokbonceeglciaaPlC
import Derived.SizedLaws
import Derived.ChangeSlices
section
namespace Go.Proofs.Ytokbonceeglciaa.Bk
open Go.RowKit Go.Proofs.YtokbonceeglciaaW.PrintWords Go.Proofs.YtokbonceeglciaaW.PrintLast Go.Proofs.YtokbonceeglciaaW.PrintMore Go.Proofs.Ytokbonceeglciaa.Print Go.Proofs.Ytokbonceeglciaa.Given
set_option linter.unusedVariables false
set_option linter.unusedSimpArgs false
set_option maxRecDepth 100000 in
set_option maxHeartbeats 16000000 in
theorem cutJ : cutI.1 := by
  intro c l who w k1 PA HPO HSO hpl HPA HC HM HWHO hl4 zcutA0_ zcutI0_ zcutI1_ w3 Aa ca B3 RA zcutA1_ zcutG0_ u8 u9 zcutI2_ zcutI3_ zcutI4_ zcutI5_ zcutI6_ zcutI7_ zcutI8_ zcutI9_ zcutI10_ zcutI11_ zcutI12_ zcutI13_ zcutI14_ zcutI15_ zcutI16_ zcutI17_ zcutI18_ zcutI19_ zcutI20_ zcutI21_ zcutI22_ zcutI23_ zcutI24_ zcutI25_ zcutI26_ zcutI27_ zcutI28_ zcutI29_ zcutI30_ zcutI31_ zcutI32_ zcutI33_ zcutI34_ zcutI35_ zcutI36_ zcutI37_ zcutI38_ zcutI39_ zcutI40_ zcutI41_ zcutI42_ zcutI43_ zcutI44_ zcutI45_ zcutI46_ zcutI47_ zcutI48_ zcutI49_ zcutI50_ zcutI51_ zcutI52_ zcutI53_ zcutI54_ zcutI55_ zcutI56_ zcutI57_ zcutI58_ zcutI59_ zcutI60_ zcutI61_ zcutI62_ zcutI63_ zcutI64_ zcutI65_ zcutI66_ zcutI67_ zcutI68_ zcutI69_ zcutI70_ zcutI71_ zcutI72_ zcutI73_ zcutI74_ zcutI75_ zcutI76_ zcutI77_ zcutI78_ zcutI79_ zcutI80_ zcutI81_ zcutI82_ zcutI83_ zcutI84_ zcutI85_ zcutI86_ zcutI87_ zcutI88_ zcutI89_ zcutI90_ zcutI91_ zcutE0_ zcutI92_ HLN HLM zcutE2_ w6 ga gs zcutE4_ Ar cr B6 CA6 ZX HCA S36 K47 u13 zcutI93_ zcutI94_ zcutI95_ zcutI96_ zcutI97_ zcutI98_ zcutI99_ zcutI100_ zcutI101_ zcutI102_ zcutI103_ zcutI104_ zcutI105_ zcutI106_ zcutI107_ zcutI108_ zcutI109_ zcutI110_ zcutI111_ zcutI112_ zcutI113_ zcutI114_ zcutI115_ zcutI116_ zcutI117_ zcutI118_ zcutI119_ zcutI120_ zcutI121_ zcutI122_ zcutI123_ zcutI124_ hi w7 HFO B7 PB HCP hlenAB zcutG2_ w9 Ab cb zcutG4_ u4 u16 u17 zcutI125_ zcutI126_ zcutI127_ zcutI128_ zcutI129_ zcutI130_ zcutI131_ zcutI132_ zcutI133_ zcutI134_ zcutI135_ zcutI136_ zcutI137_ zcutI138_ zcutI139_ zcutI140_ zcutI141_ zcutI142_ zcutI143_ zcutI144_ zcutI145_ zcutI146_ zcutI147_ zcutI148_ zcutI149_ zcutI150_ zcutI151_ zcutI152_ zcutI153_ zcutI154_ zcutI155_ zcutI156_ zcutI157_ zcutI158_ zcutI159_ zcutI160_ zcutI161_ zcutI162_ zcutI163_ zcutI164_ zcutI165_ zcutI166_ zcutI167_ zcutI168_ zcutI169_ zcutI170_ zcutI171_ zcutI172_ hi2 wz BZ hl0 e1 e2 zcutI173_ wc u20 u21 u22 u23 u24 u25 u26 u27 u28 u29 u30 u31 u32 u33 u34 u35 u36 u37 u38 u39 u40 u41 u42 u43 u44 u45 u46 u47 u48 u49 u50 u51 u52 u53 u54 u55 u56 u57 u58 u59 u60 u61 u62 u63 u64 u65 u66 u67 u68 u69 u70 u71 u72 u73 u74 u75 u76 u77 u78 u79 u80 u81 u82 u83 u84 u85 u86 u87 u88 u89 u90 u91 u92 u93 u94 u95 u96 u97 u98 u99 u100 u101 u102 u103 u104 u105 u106 u107 u108 u109 u110 u111 u112 u113 u114 u115 u116 u117 u118 u119 u120 u121 u122 u123 u124 u125 u126 u127 u128 u129 u130 u131 u132 u133 u134 u135 u136 u137 u138 u139 u140 u141 u142 u143 u144 u145 u146 u147 u148 u149 u150 u151 u152 u153 u154 u155 u156 u157 u158 u159 u160 u161 u162 u163 u164 u165 u166 u167 u168 u169 u170 u171 u172 u173 u174 u175 u176 u177 u178 u179 u180 u181 u182 u183 u184 u185 u186 u187 u188 u189 u190 u191 u192 u193 u194 u195 u196 u197 u198 u199 u200 u201 u202 u203 u204 u205 u206 u207 u208 u209 u210 u211 u212 u213 u214 u215 u216 u217 u218 u219 u220 u221 u222 u223 u224 u225 u226 u227 u228 u229 u230 u231 u232 u233 u234 u235 u236 u237 u238 u239 u240 u241 u242 u243 u244 u245 u246 u247 u248 u249 u250 u251 u252 u253 u254 u255 u256 u257 z hz HBC m hml hmod hne0 hwm hzw hw1 i22 zcutI174_ zcutI175_ A2 x HX HML zcutI176_ zcutI177_ zcutI178_ HT_ HW_ wd BD HF2 CAD v1 w1 zcutI179_ v2 w2 hHeld w4 HB9 LF A3 c3 hc3 PL HPL kw WL bb ks HBB ad2 A1 c1 HR zcutE1_ zcutE3_ zcutG1_ zcutG3_ zcutI180_ zcutI181_ hcu1 hcu2 HF1 zcutI182_ zcutI183_ zcutI184_ BW4 id x0 CAW HC3 HKW HKS
  go_upto_region 41 with (fail)
  refine start_ (n := 11) (S := fun w' => w'.cell? (ad2.add (m * 2)) = some (.int .i64 id)) (ds := []) #[false, false, false, false, false, false, false, false, false, false, false] (by kernel_rfl) rfl rfl x0 (fun hHeld => ?_)
  refine with_tabW l41tab l41bits (fun HT_ HW_ => ?_)
  have BW5 := Aside0.mk (below_drew1 BW4.out)
  have CA5 := Aside0.mk (Kd.C_below CAW.out (below_drew (Below.refl _ w4)))
  have HC5 := Aside0.mk (Kd.C_below HC3.out (below_drew (Below.refl _ w4)))
  generalize w4.drew = w5 at BW5 CA5 HC5 hHeld ⊢
  refine pure_ (i := 0) (N := some 239) (v := ?_) (a' := ?_) #[true, false, false, false, false, false, false, false, false, false, false] rfl rfl (any_of HT_.out (by kernel_rfl)) (fun _ _ _ h => h) (Or.inl ⟨by rfl, ?_⟩) ?_ ?_
  rotate_left
  · intro w'
    go_simp
    with_reducible rfl
  rotate_left
  · simp only [Act.put, List.setIfInBounds_toArray, List.set_cons_zero, List.set_cons_succ, i64_w, i32_w]
    rfl
  refine pure_ (i := 2) (N := some 241) (v := ?_) (a' := ?_) #[true, false, true, false, false, false, false, false, false, false, false] rfl rfl (any_of HT_.out (by kernel_rfl)) (fun _ _ _ h => h) (Or.inl ⟨by rfl, ?_⟩) ?_ ?_
  rotate_left
  · intro w'
    go_simp
    with_reducible rfl
  rotate_left
  · simp only [Act.put, List.setIfInBounds_toArray, List.set_cons_zero, List.set_cons_succ, i64_w, i32_w]
    rfl
  refine pure_ (i := 3) (N := some 242) (v := ?_) (a' := ?_) #[true, false, true, true, false, false, false, false, false, false, false] rfl rfl (any_of HT_.out (by kernel_rfl)) (fun _ _ _ h => h) (Or.inl ⟨by rfl, ?_⟩) ?_ ?_
  rotate_left
  · intro w'
    go_simp
    with_reducible rfl
  rotate_left
  · simp only [Act.put, List.setIfInBounds_toArray, List.set_cons_zero, List.set_cons_succ, i64_w, i32_w]
    rfl
  refine pure_ (i := 4) (N := some 243) (v := ?_) (a' := ?_) #[true, false, true, true, true, false, false, false, false, false, false] rfl rfl (any_of HT_.out (by kernel_rfl)) (fun _ _ _ h => h) (Or.inl ⟨by rfl, ?_⟩) ?_ ?_
  rotate_left
  · intro w'
    go_simp
    with_reducible rfl
  rotate_left
  · simp only [Act.put, List.setIfInBounds_toArray, List.set_cons_zero, List.set_cons_succ, i64_w, i32_w]
    rfl
  refine pure_ (i := 5) (N := some 244) (v := ?_) (a' := ?_) #[true, false, true, true, true, true, false, false, false, false, false] rfl rfl (any_of HT_.out (by kernel_rfl)) (fun _ _ _ h => h) (Or.inl ⟨by rfl, ?_⟩) ?_ ?_
  rotate_left
  · intro w'
    go_simp
    with_reducible rfl
  rotate_left
  · simp only [Act.put, List.setIfInBounds_toArray, List.set_cons_zero, List.set_cons_succ, i64_w, i32_w]
    rfl
  refine pure_ (i := 6) (N := some 245) (v := ?_) (a' := ?_) #[true, false, true, true, true, true, true, false, false, false, false] rfl rfl (any_of HT_.out (by kernel_rfl)) (fun _ _ _ h => h) (Or.inl ⟨by rfl, ?_⟩) ?_ ?_
  rotate_left
  · intro w'
    go_simp
    with_reducible rfl
  rotate_left
  · simp only [Act.put, List.setIfInBounds_toArray, List.set_cons_zero, List.set_cons_succ, i64_w, i32_w]
    rfl
  refine take_ (i := 7) (N := some 246) (v := ?_) (a' := ?_) #[true, false, true, true, true, true, true, true, false, false, false] rfl rfl (take_ofW HT_.out HW_.out (by kernel_rfl)) (fun _ _ _ h => h) (Or.inl ⟨by rfl, ?_⟩) hHeld ?_ ?_
  rotate_left
  · rintro w' s0
    go_simp
    with_reducible rfl
  rotate_left
  · simp only [Act.put, List.setIfInBounds_toArray, List.set_cons_zero, List.set_cons_succ, i64_w, i32_w]
    rfl
  refine one_ (i := 1) (N := some 240) #[true, true, true, true, true, true, true, true, false, false, false] rfl rfl (one_of HT_.out (by kernel_rfl)) (by decide) (fun K hK => ?_)
  refine goes_ Try.func10 (by kernel_rfl) rfl #[.slice A3 LF.length c3] (by rfl) rfl rfl (by (try simp only [List.map_toArray, List.map_cons, List.map_nil]); first | done | rfl) ?_
  refine (post_Pairs.calls A3 c3 LF PL w5 HC5.out hc3 HPL.out).mono ?_
  rintro e w6 ⟨vl, rfl, hR, hb⟩
  refine ⟨_, rfl, ?_⟩
  obtain ⟨Al, cl, rfl⟩ := Kd.R_slice hR
  have RL := Aside0.mk (Kd.R_reads' hR)
  have CA6 := Aside0.mk (Kd.C_below CA5.out hb)
  have BW6 := Aside0.mk (below_then BW5.out BW5.out.size hb)
  refine hK.out _ _ (pw_cell_below hb hHeld) (fun hHeld => ?_)
  clear hK K
  refine norm_ (a' := ?_) ?_ ?_
  rotate_left
  · show Act.put _ (some 240) _ = _
    simp only [Act.put, List.setIfInBounds_toArray, List.set_cons_zero, List.set_cons_succ, i64_w, i32_w]
    rfl
  refine one_ (i := 8) (N := some 247) #[true, true, true, true, true, true, true, true, true, false, false] rfl rfl (one_of HT_.out (by kernel_rfl)) (by decide) (fun K hK => ?_)
  refine goes_ Try.func21 (by kernel_rfl) rfl #[.slice Aa PA.length ca, .int .i64 id] (by rfl) rfl rfl (by (try simp only [List.map_toArray, List.map_cons, List.map_nil]); first | done | rfl) ?_
  refine (squintlaw13_without.calls kw Aa ca PA id WL w6 CA6.out HCA.out HKW.out).mono ?_
  rintro e w7_ ⟨vl, rfl, hR, hb2⟩
  refine ⟨_, rfl, ?_⟩
  obtain ⟨Aw, cw, rfl⟩ := Kd.R_slice hR
  have RW := Aside0.mk (Kd.R_reads' hR)
  have RL2 := Aside0.mk (Kd.C_below RL.out.2.2 hb2)
  have BW7 := Aside0.mk (below_then BW6.out BW6.out.size hb2)
  refine hK.out _ _ (pw_cell_below hb2 hHeld) (fun hHeld => ?_)
  clear hK K
  refine norm_ (a' := ?_) ?_ ?_
  rotate_left
  · show Act.put _ (some 247) _ = _
    simp only [Act.put, List.setIfInBounds_toArray, List.set_cons_zero, List.set_cons_succ, i64_w, i32_w]
    rfl
  refine one_ (i := 9) (N := some 248) #[true, true, true, true, true, true, true, true, true, true, false] rfl rfl (one_of HT_.out (by kernel_rfl)) (by decide) (fun K hK => ?_)
  refine goes_ Try.func20 (by kernel_rfl) rfl #[.slice Al PL.length cl, .slice Aw WL.length cw] (by rfl) rfl rfl (by (try simp only [List.map_toArray, List.map_cons, List.map_nil]); first | done | rfl) ?_
  refine (squintlaw13_same.calls ks Al cl PL Aw cw WL bb w7_ RL2.out RL.out.2.1 RW.out.2.2 RW.out.2.1 HKS.out).mono ?_
  rintro e w8 ⟨rfl, hd⟩
  refine ⟨_, rfl, ?_⟩
  have BW8 := Aside0.mk (below_then BW7.out BW7.out.size hd.below)
  refine hK.out _ _ (pw_cell_below hd.below hHeld) (fun hHeld => ?_)
  clear hK K
  refine norm_ (a' := ?_) ?_ ?_
  rotate_left
  · show Act.put _ (some 248) _ = _
    simp only [Act.put, List.setIfInBounds_toArray, List.set_cons_zero, List.set_cons_succ, i64_w, i32_w]
    rfl
  refine pure_ (i := 10) (N := some 19) (v := ?_) (a' := ?_) #[true, true, true, true, true, true, true, true, true, true, true] rfl rfl (any_of HT_.out (by kernel_rfl)) (fun _ _ _ h => h) (Or.inl ⟨by rfl, ?_⟩) ?_ ?_
  rotate_left
  · intro w'
    go_simp
    with_reducible rfl
  rotate_left
  · simp only [Act.put, List.setIfInBounds_toArray, List.set_cons_zero, List.set_cons_succ, i64_w, i32_w]
    rfl
  refine done_ (done_of HT_.out (by kernel_rfl)) ?_
  clear hHeld
  cases bb with
  | true =>
    go_wp2_with (fail)
    go_returns
    exact ⟨rfl, BW8.out⟩
  | false =>
    have hpa : PA.length = 0 := HBB.out.resolve_left (by simp)
    have e3 : ((PA.length : Int) == 0) = true := beq_iff_eq.2 (by omega)
    have e4 : (PA.length == 0) = true := beq_iff_eq.2 hpa
    go_wp2_with (fail)
    go_returns
    exact ⟨rfl, BW8.out⟩
end Go.Proofs.Ytokbonceeglciaa.Bk
end
section
namespace Go.Proofs.Ytokbonceeglciaa.Bk
open Go.RowKit Go.Proofs.YtokbonceeglciaaW.PrintWords Go.Proofs.YtokbonceeglciaaW.PrintLast Go.Proofs.YtokbonceeglciaaW.PrintMore Go.Proofs.Ytokbonceeglciaa.Print Go.Proofs.Ytokbonceeglciaa.Given
set_option linter.unusedVariables false
set_option linter.unusedSimpArgs false
theorem laws_near (A : Option Addr) (c : Nat) (l : List S38) (who : Int) (w : World) (hr : Kd.C k38 w A l.length l) (hc : l.length ≤ c) (k1 : Nat) (h1 : squintlaw13_beyond.f k1 l = some false) (hm : l.length + arms l ≤ 4000) (hwho : -9223372036854775808 ≤ who ∧ who ≤ 9223372036854775807) :
    Calls Try.prog 4 #[.slice A l.length c, .int .i64 who] w fun e w' => e = .returned (.bool true) ∧ Below w.heap.size w w' :=
  cutA.2.2 ⟨cutB.2 ⟨cutC.2 ⟨cutD⟩⟩⟩ ⟨cutE.2.2 ⟨cutF⟩ ⟨cutG.2.2 ⟨cutH⟩ ⟨cutI.2 ⟨cutJ⟩⟩⟩⟩ A c l who w hr hc k1 h1 hm hwho
theorem laws_walk (A : Option Addr) (c : Nat) (l : List S38) (who : Int) (w : World) (hr : Kd.C k38 w A l.length l) (hc : l.length ≤ c) (h1 : wfWs l) (h2 : (Lit.int .i64 who).wf = true) :
    Calls Try.prog 4 #[.slice A l.length c, .int .i64 who] w fun e w' => e = .returned (.bool true) ∧ Below w.heap.size w w' := by
  obtain ⟨b1, k1, e1, g1⟩ := beyond_says l (wfWs_len h1).1 (wfWs_len h1).2
  cases b1 with
  | true => exact laws_far A c l who w hr hc k1 e1
  | false => exact laws_near A c l who w hr hc k1 e1 (g1 rfl) (Go.bounds_i64 h2)
end Go.Proofs.Ytokbonceeglciaa.Bk
end
section
namespace Go.Proofs.YtokbonceeglciaaW.PrintWords
open Go.ChangeShapes Go.WideShapes
end Go.Proofs.YtokbonceeglciaaW.PrintWords
end
