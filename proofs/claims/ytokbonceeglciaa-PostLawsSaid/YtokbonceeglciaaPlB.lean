/- Lemmas for the claim (what no proof of it names is left out). -/
import Derived.Test.YtokbonceeglciaaPlA
import Derived.Shelf.RegionOpen
section
namespace Go.Proofs.Ytokbonceeglciaa.Given
open Go.RowKit Go.Shelf Go.Proofs.YtokbonceeglciaaW.PrintWords Go.Proofs.Ytokbonceeglciaa.Print
attribute [local go_sem] Oper.semAt_some
def pairsQ (pid i ch : Int) (q : S38) : List S47 := (selR (recvX ch) 0 q.f1).map fun r => ⟨pid, i, q.f0, r.1, ch⟩
def pairsA (l : List S38) (pid i ch : Int) : List S47 := (selR (fun q : S38 => q.f0 != pid) 0 l).flatMap fun q => pairsQ pid i ch (l.getD q.1 z38)
def pairsP (l : List S38) (p : S38) : List S47 := (selR (sendX 0) 0 p.f1).flatMap fun y => pairsA l p.f0 y.1 y.2.f0
def pairsOf (l : List S38) : List S47 := if rightOf l = true then l.flatMap (pairsP l) else []
theorem selR_fst {α β γ : Type} {p : α → Bool} {q : β → Bool} {f : α → γ} {g : β → γ} : ∀ (i : Nat) (zs : List α) (xs : List β), zs.length = xs.length → (∀ (j : Nat) (x : β) (z : α), xs[j]? = some x → zs[j]? = some z → p z = q x ∧ f z = g x) → (selR p i zs).map (fun y => (y.1, f y.2)) = (selR q i xs).map (fun y => (y.1, g y.2))
  | _, [], [], _, _ => rfl
  | _, [], _ :: _, h, _ => by simp at h
  | _, _ :: _, [], h, _ => by simp at h
  | i, z :: zs, x :: xs, hl, h => by
    obtain ⟨h0, h1⟩ := h 0 x z rfl rfl
    have ih := selR_fst (p := p) (q := q) (f := f) (g := g) (i + 1) zs xs (by simpa using hl) (fun j a b ha hb => h (j + 1) a b (by simpa using ha) (by simpa using hb))
    simp only [selR, h0]
    split
    · simp [ih, h1]
    · exact ih
theorem flatMap_len {α β : Type} (f : α → List β) (T : Nat) : ∀ l : List α, (∀ x ∈ l, (f x).length ≤ T) → (l.flatMap f).length ≤ l.length * T
  | [], _ => by simp
  | x :: l, h => by
    have h1 := h x (by simp)
    have h2 := flatMap_len f T l (fun y hy => h y (by simp [hy]))
    simp only [List.flatMap_cons, List.length_append, List.length_cons]
    rw [Nat.succ_mul]
    omega
theorem arms_mem (l : List S38) : ∀ x ∈ l, x.f1.length ≤ arms l := by
  induction l with
  | nil => simp
  | cons y l ih =>
    intro x hx
    simp only [arms, List.map_cons, List.sum_cons]
    rcases List.mem_cons.1 hx with rfl | hx
    · omega
    · have := ih x hx
      simp only [arms] at this
      omega
theorem arms_getD (l : List S38) (j : Nat) : (l.getD j z38).f1.length ≤ arms l := by
  by_cases h : j < l.length
  · rw [List.getD_eq_getElem?_getD, List.getElem?_eq_getElem h]
    exact arms_mem l _ (List.getElem_mem h)
  · rw [List.getD_eq_getElem?_getD, List.getElem?_eq_none (by omega)]
    simp [z38]
theorem pairsQ_len (pid i ch : Int) (q : S38) : (pairsQ pid i ch q).length ≤ q.f1.length := by
  simp only [pairsQ, List.length_map]
  exact selR_len _ _ _
theorem pairsA_len (l : List S38) (pid i ch : Int) : (pairsA l pid i ch).length ≤ l.length * arms l := by
  refine Nat.le_trans (flatMap_len _ (arms l) _ (fun x _ => Nat.le_trans (pairsQ_len _ _ _ _) (arms_getD l _))) ?_
  exact Nat.mul_le_mul_right _ (selR_len _ _ _)
theorem pairsP_len (l : List S38) (p : S38) : (pairsP l p).length ≤ p.f1.length * (l.length * arms l) := by
  refine Nat.le_trans (flatMap_len _ (l.length * arms l) _ (fun x _ => pairsA_len _ _ _ _)) ?_
  exact Nat.mul_le_mul_right _ (selR_len _ _ _)
theorem pairs_len (l : List S38) : ∀ k : List S38, (k.flatMap (pairsP l)).length ≤ arms k * (l.length * arms l)
  | [] => by simp
  | p :: k => by
    have h1 := pairsP_len l p
    have h2 := pairs_len l k
    have h3 : arms (p :: k) = p.f1.length + arms k := by simp [arms]
    rw [List.flatMap_cons, List.length_append, h3, Nat.add_mul]
    omega
set_option maxRecDepth 100000 in
set_option maxHeartbeats 8000000 in
theorem pairs_yes (A : Option Addr) (c : Nat) (l : List S38) (w : World) (hr : Kd.C k38 w A l.length l) (hc : l.length ≤ c) (hb : l.length + arms l ≤ 5000) (hy : rightOf l = true) :
    Calls Try.prog 10 #[.slice A l.length c] w fun e w' => ∃ v, e = .returned v ∧ Kd.R k47 47 w' w.heap.size (fun _ => True) v (l.flatMap (pairsP l)) ∧ Below w.heap.size w w' := by
  have hm := hr.2.1
  obtain ⟨zs, hzl, hz, hrow⟩ := rawW hr
  have HR := Aside0.mk hr
  have HROW := Aside0.mk hrow
  have HZ := Aside0.mk hz
  have HY := Aside0.mk hy
  have HZL := Aside0.mk hzl
  clear hr hrow hz hy hzl
  refine (callsIn_wide (n := 9)).1 ?_
  refine callsIn_of_wp_marks Try.func10 rfl trivial ?_ rfl
  simp only [Try.ntmps10, List.size_toArray, List.length_cons, List.length_nil, Nat.reduceAdd, Nat.reduceSub, Array.replicate_succ, Array.replicate_zero, List.push_toArray, List.append_toArray, List.nil_append, List.cons_append]
  refine wpIn_wide.2 ?_
  go_wp2_with (go_at_call 22; refine (right_any A c l _ (Kd.C_alloc (Kd.C_alloc HR.out _) _) hc).mono ?_; rw [HY.out]; rintro e w1 ⟨rfl, hb1⟩; have HB1 := Aside0.mk hb1; have cl := Boxed.cell (heap_keep ((Boxed.new w 22 (.slice A l.length c)).alloc (.cells #[.slice none 0 0] 33)) hb1); clear hb1)
  have hBl := heap_keep ((Boxed.new w 22 (.slice A l.length c)).alloc (.cells #[.slice none 0 0] 33)) HB1.out
  have hBo := Boxed.new (w.alloc (.cells #[.slice A l.length c] 22)) 33 (.slice none 0 0)
  rw [World.size_alloc] at hBo
  replace hBo := heap_keep hBo HB1.out
  have hK1 : Kp w.heap.size w w1 := ⟨(below_alloc (below_alloc (Below.refl _ w) _) _).trans (HB1.out.mono (by simp; omega)), ((KT.alloc w _).trans (KT.alloc _ _)).trans ⟨HB1.out.size, fun k cs t fr hk _ _ => heap_keep hk HB1.out⟩⟩
  have hO1 : OutAt w.heap.size (w.heap.size + 1) w1 [] := ⟨.slice none 0 0, hBo, Kd.R_nil _ _ _ _ _⟩
  have HBL : Aside0 (Boxed w1 w.heap.size 22 (.slice A l.length c)) := ⟨hBl⟩
  have HK1 := Aside0.mk hK1
  have HO1 := Aside0.mk hO1
  clear hK1 hO1 hBl hBo cl
  refine wp_loop (fun a' W => ∃ (k : Nat) (u5 u18 u19 u20 u21 u22 u23 u24 u52 : Value) (ds : List Deferred), a' = { tmps := #[.slice A l.length c, .pointer (some ⟨w.heap.size, 0, none⟩), .slice none 0 0, .pointer (some ⟨w.heap.size + 1, 0, none⟩), undef, u5, undef, undef, undef, undef, undef, .slice A l.length c, .bool true, .bool false, undef, .slice A l.length c, .int .i64 l.length, .int .i64 k, u18, u19, u20, u21, u22, u23, u24, undef, undef, undef, undef, undef, undef, undef, undef, undef, undef, undef, undef, undef, undef, undef, undef, undef, undef, undef, undef, undef, undef, undef, undef, undef, undef, undef, u52, undef], defers := ds } ∧ k ≤ l.length ∧ Aside0 (Kp w.heap.size w W) ∧ Aside0 (OutAt w.heap.size (w.heap.size + 1) W ((l.take k).flatMap (pairsP l))) ∧ Aside0 (Marks w.heap.size ds W) ∧ Aside0 (KT w1 W))
    (fun a' _ => l.length - (intOf (a'.tmps.getD 17 undef)).toNat) ?start ?round
  case start => exact ⟨0, undef, undef, undef, undef, undef, undef, undef, undef, undef, [], rfl, by omega, HK1, HO1, ⟨List.Pairwise.nil, by simp⟩, ⟨KT.refl _⟩⟩
  case round =>
    rintro a W ⟨k, u5, u18, u19, u20, u21, u22, u23, u24, u52, ds, rfl, hk, HK, HO, HM, HT⟩
    by_cases hlt : k < l.length
    · obtain ⟨z, hz⟩ : ∃ z, zs[k]? = some z := ⟨zs[k]'(by have := HZL.out; omega), List.getElem?_eq_getElem _⟩
      have hlk : l[k]? = some l[k] := List.getElem?_eq_getElem hlt
      obtain ⟨z1, z2, z3⟩ := HZ.out k _ z hlk hz
      obtain ⟨ad, rfl, hbl, x0, x1⟩ := HROW.out k z hz
      replace x0 := (HK.out.1.cell (p := ad.add (k * 2)) hbl).trans x0
      replace x1 := (HK.out.1.cell (p := ⟨(ad.add (k * 2)).block, (ad.add (k * 2)).off + 1, none⟩) hbl).trans x1
      have Z1 := Aside0.mk z1
      have Z2 := Aside0.mk z2
      have Z3 := Aside0.mk z3
      clear z1 z2 z3 hlk
      go_wp2_with (fail)
      go_region_held3 (fun X => X.cell? ⟨W.heap.size, 1, none⟩ = some (.slice z.A z.n z.c)) (first | go_keep)
        (first | (go_at_call 24; refine (senders_any 0 _).mono ?_; rintro e w2 ⟨rfl, rfl⟩) | (go_at_call 23; refine (that23_any _ _ _ 31 _ _).mono ?_; rintro e w3 ⟨rfl, rfl⟩))
      obtain ⟨W0, hW0⟩ : ∃ W0, W0 = ((((W.alloc (.cells #[.int .i64 z.id, .slice z.A z.n z.c] 38)).alloc (.cells #[.int .i64 0] 3)).alloc (.cells #[.slice z.A z.n z.c] 36)).alloc (.cells #[.func (.func 31) #[] #[.pointer (some ⟨W.heap.size + 1, 0, none⟩)]] 54)).drew := ⟨_, rfl⟩
      have b5 : W0.heap[W.heap.size]? = some (.cells #[.int .i64 z.id, .slice z.A z.n z.c] 38 (0, 0)) := by
        rw [hW0]; exact heap_keep (heap_alloc_new W _) (below_drew (below_alloc (below_alloc (below_alloc (Below.refl _ _) _) _) _))
      have bN : Boxed W0 (W.heap.size + 1) 3 (.int .i64 0) := by
        rw [hW0]
        have h := Boxed.new (W.alloc (.cells #[.int .i64 z.id, .slice z.A z.n z.c] 38)) 3 (.int .i64 0)
        rw [World.size_alloc] at h
        exact (h.alloc _).alloc _
      have bS : Boxed W0 (W.heap.size + 1 + 1) 36 (.slice z.A z.n z.c) := by
        rw [hW0]
        have h := Boxed.new ((W.alloc (.cells #[.int .i64 z.id, .slice z.A z.n z.c] 38)).alloc (.cells #[.int .i64 0] 3)) 36 (.slice z.A z.n z.c)
        simp only [World.size_alloc] at h
        exact h.alloc _
      have bH : Boxed W0 (W.heap.size + 1 + 1 + 1) 54 (.func (.func 31) #[] #[.pointer (some ⟨W.heap.size + 1, 0, none⟩)]) := by
        rw [hW0]
        have h := Boxed.new (((W.alloc (.cells #[.int .i64 z.id, .slice z.A z.n z.c] 38)).alloc (.cells #[.int .i64 0] 3)).alloc (.cells #[.slice z.A z.n z.c] 36)) 54 (.func (.func 31) #[] #[.pointer (some ⟨W.heap.size + 1, 0, none⟩)])
        simp only [World.size_alloc] at h
        exact h
      have hT0 : KT w1 W0 := by
        rw [hW0]
        exact (((HT.out.trans (KT.alloc W (.cells #[.int .i64 z.id, .slice z.A z.n z.c] 38))).trans (KT.alloc _ (.cells #[.int .i64 0] 3))).trans (KT.alloc _ (.cells #[.slice z.A z.n z.c] 36))).trans (KT.alloc _ (.cells #[.func (.func 31) #[] #[.pointer (some ⟨W.heap.size + 1, 0, none⟩)]] 54))
      have hK0 : Kp w.heap.size w W0 := by
        rw [hW0]
        have hs := HK.out.1.size
        have h := (((HK.out.alloc hs (.cells #[.int .i64 z.id, .slice z.A z.n z.c] 38)).alloc (by simp; omega) (.cells #[.int .i64 0] 3)).alloc (by simp; omega) (.cells #[.slice z.A z.n z.c] 36)).alloc (by simp; omega) (.cells #[.func (.func 31) #[] #[.pointer (some ⟨W.heap.size + 1, 0, none⟩)]] 54)
        exact ⟨below_drew h.1, h.2⟩
      have hO0 : OutAt w.heap.size (w.heap.size + 1) W0 ((l.take k).flatMap (pairsP l)) := by rw [hW0]; exact (((HO.out.alloc _).alloc _).alloc _).alloc _
      have hM0 : Marks w.heap.size ds W0 := by
        rw [hW0]
        exact HM.out.keeps (((((KeepsOthers.alloc _ _).trans (KeepsOthers.alloc _ _)).trans (KeepsOthers.alloc _ _)).trans (KeepsOthers.alloc _ _)).trans (KeepsOthers.drew _))
      rw [← hW0]
      clear hW0
      go_wp2_with (fail)
      refine (wpIn_wide (n := 9)).1 ?_
      obtain ⟨az, hal, haz, harow⟩ := rawA Z3.out
      obtain ⟨i0, hi0, hz0, hz1, hz2⟩ := info_parts info47
      have hn2 := Z2.out
      rw [← hal] at hn2
      rw [hn2] at bS
      have HN2 := Aside0.mk hn2
      clear hn2
      obtain ⟨acc, hacc⟩ : ∃ acc, acc = (l.take k).flatMap (pairsP l) := ⟨_, rfl⟩
      have hNT : l.length * arms l ≤ 5000 * 5000 := Nat.mul_le_mul (by omega) (by omega)
      have hazl : az.length ≤ arms l := by rw [hal]; exact arms_mem l _ (List.getElem_mem hlt)
      have hlen : acc.length ≤ 5000 * (5000 * 5000) := by
        rw [hacc]
        refine Nat.le_trans (pairs_len l _) (Nat.mul_le_mul ?_ hNT)
        have := arms_take l k hlt
        omega
      rw [← hacc] at hO0
      have HACC := Aside0.mk hacc
      have HNT := Aside0.mk hNT
      clear hacc hNT
      have hs0 := hK0.1.size
      have cBl : Boxed W0 w.heap.size 22 (.slice (some ad) l.length c) := hT0.boxed HBL.out (by decide) (by decide)
      refine wpIn_rangeFunc_ownH rfl (by decide) (gf := 30) (lb := #[.pointer (some ⟨W.heap.size + 1 + 1, 0, none⟩), .pointer (some ⟨W.heap.size + 1 + 1 + 1, 0, none⟩)]) rfl trivial (enters_of Try.func30 (by kernel_rfl) rfl)
        (armsS_stops 8 _ _ (W.heap.size + 1) w.heap.size z.A z.c az 0 (by omega) W0 bS bH bN (harow.below hK0.1) hs0) Kp.t (Kp.b hs0) (Below.refl _ _) (fun _ => rfl)
        (fun pre X => (OutAt w.heap.size (w.heap.size + 1) X (acc ++ pre.flatMap fun y => pairsA l z.id (y.1 : Nat) y.2.ch) ∧ Kp w.heap.size W0 X) ∧ Marks w.heap.size ds X)
        (fun _ _ _ => False)
        (OwnFrom.and (OwnFrom.and (own_out _ _ _ _) (own_Kp hs0 hs0)) (own_marks hM0.lt))
        (fun _ _ _ _ _ hs _ _ => hs)
        ⟨⟨by simpa using hO0, Below.refl _ _, KT.refl _⟩, hM0⟩
        (fun x a' X => ∃ Bi, (X.heap[Bi]? = some (.cells #[.int .i64 (x.1 : Nat)] 3 (0, 0)) ∧ X.heap[Bi + 1]? = some (.cells #[.int .i64 x.2.ch, .bool x.2.sd, .int .i64 x.2.a, .int .i64 x.2.b, .slice x.2.A x.2.n x.2.c] 43 (0, 0))) ∧ a' = { tmps := #[.slice (some ad) l.length c, .pointer (some ⟨w.heap.size, 0, none⟩), .slice none 0 0, .pointer (some ⟨w.heap.size + 1, 0, none⟩), undef, .pointer (some ⟨W.heap.size, 0, none⟩), .pointer (some ⟨Bi, 0, none⟩), .pointer (some ⟨Bi + 1, 0, none⟩), undef, undef, undef, .slice (some ad) l.length c, .bool true, .bool false, undef, .slice (some ad) l.length c, .int .i64 l.length, .int .i64 k, .bool true, .pointer (some (ad.add (k * 2))), .agg #[.int .i64 z.id, .slice z.A z.n z.c], .pointer (some ⟨W.heap.size, 1, none⟩), .slice z.A z.n z.c, .func (.func 31) #[] #[.pointer (some ⟨W.heap.size + 1, 0, none⟩)], .func (.func 30) #[] #[.pointer (some ⟨W.heap.size + 1 + 1, 0, none⟩), .pointer (some ⟨W.heap.size + 1 + 1 + 1, 0, none⟩)], .int .i64 (x.1 : Nat), encA x.2, undef, undef, undef, undef, undef, undef, undef, undef, undef, undef, undef, undef, undef, undef, undef, undef, undef, undef, undef, undef, undef, undef, undef, undef, undef, u52, undef], defers := [] })
        (fun x a' _ X Y row hs hg hr => by obtain ⟨Bi, ⟨h1, h2⟩, h3⟩ := hs; exact ⟨Bi, ⟨own_cells (β := Unit) () X Y row h1 hg hr, own_cells (β := Unit) () X Y row h2 hg hr⟩, h3⟩)
        ?assign ?body ?done ?stop
      case assign =>
        rintro l' pre x X K ⟨⟨hO, hKX⟩, hMX⟩ hK
        have hsX := Nat.le_trans hs0 hKX.1.size
        dsimp only [encA]
        gi_wp2
        refine hK _ _ (((KeepsOthers.alloc _ _).trans (KeepsOthers.alloc _ _)).from _) ((Kp.alloc ⟨Below.refl _ _, KT.refl _⟩ hsX _).alloc (by simp; omega) _) ⟨⟨(hO.alloc _).alloc _, (hKX.alloc hsX _).alloc (by simp; omega) _⟩, hMX.keeps ((KeepsOthers.alloc _ _).trans (KeepsOthers.alloc _ _))⟩ ⟨X.heap.size, ⟨heap_keep (heap_alloc_new X _) (below_alloc (Below.refl _ _) _), ?_⟩, rfl⟩
        have h := heap_alloc_new (X.alloc (.cells #[.int .i64 (x.1 : Nat)] 3)) (.cells #[.int .i64 x.2.ch, .bool x.2.sd, .int .i64 x.2.a, .int .i64 x.2.b, .slice x.2.A x.2.n x.2.c] 43)
        rw [World.size_alloc] at h
        exact h
      case body =>
        rintro l1 pre x a' X1 hl1 ⟨r1, hr1⟩ ⟨⟨hO1, hKX1⟩, hMX1⟩ ⟨Bi, ⟨bi, ba⟩, rfl⟩ hlt1
        have hs1 : w.heap.size ≤ X1.heap.size := Nat.le_trans hs0 hKX1.1.size
        have cl1 := (hKX1.2.boxed cBl (by decide) (by decide)).cell
        have b51 := hKX1.2.2 _ _ _ _ b5 (by decide) (by decide)
        have hacc1 : (acc ++ pre.flatMap fun y => pairsA l z.id (y.1 : Nat) y.2.ch).length ≤ 5000 * (5000 * 5000) + 5000 * (5000 * 5000) := by
          rw [List.length_append]
          refine Nat.add_le_add hlen (Nat.le_trans (flatMap_len _ (l.length * arms l) _ (fun y _ => pairsA_len _ _ _ _)) (Nat.mul_le_mul ?_ HNT.out))
          omega
        obtain ⟨acc1, hac1⟩ : ∃ acc1, acc1 = acc ++ pre.flatMap fun y => pairsA l z.id (y.1 : Nat) y.2.ch := ⟨_, rfl⟩
        rw [← hac1] at hO1 hacc1
        have HAC1 := Aside0.mk hac1
        clear hac1
        gi_wp2_with (refine ⟨trivial, ?_⟩; refine (CallsIn.inRound l1 (callsIn_wide.2 (that25_any _ _ _ 26 _ _))).mono ?_; rintro e w' ⟨rfl, rfl⟩)
        have bW1 := (Boxed.new X1 22 (.slice (some ad) l.length c)).alloc (.cells #[.func (.func 26) #[] #[.pointer (some ⟨W.heap.size, 0, none⟩)]] 59)
        have bF1 := Boxed.new (X1.alloc (.cells #[.slice (some ad) l.length c] 22)) 59 (.func (.func 26) #[] #[.pointer (some ⟨W.heap.size, 0, none⟩)])
        rw [World.size_alloc] at bF1
        have b52 : ((X1.alloc (.cells #[.slice (some ad) l.length c] 22)).alloc (.cells #[.func (.func 26) #[] #[.pointer (some ⟨W.heap.size, 0, none⟩)]] 59)).heap[W.heap.size]? = some (.cells #[.int .i64 z.id, .slice z.A z.n z.c] 38 (0, 0)) := heap_keep b51 (below_alloc (below_alloc (Below.refl _ _) _) _)
        have hr1' : ((X1.alloc (.cells #[.slice (some ad) l.length c] 22)).alloc (.cells #[.func (.func 26) #[] #[.pointer (some ⟨W.heap.size, 0, none⟩)]] 59)).heap[l1]? = some (.loop r1) := heap_keep hr1 (below_alloc (below_alloc (Below.refl _ _) _) _)
        have hKX1a : Kp w.heap.size X1 ((X1.alloc (.cells #[.slice (some ad) l.length c] 22)).alloc (.cells #[.func (.func 26) #[] #[.pointer (some ⟨W.heap.size, 0, none⟩)]] 59)) := (Kp.alloc ⟨Below.refl _ _, KT.refl _⟩ hs1 _).alloc (by simp; omega) _
        have hkX1a : KeepsFrom W0.heap.size X1 ((X1.alloc (.cells #[.slice (some ad) l.length c] 22)).alloc (.cells #[.func (.func 26) #[] #[.pointer (some ⟨W.heap.size, 0, none⟩)]] 59)) := ((KeepsOthers.alloc _ _).trans (KeepsOthers.alloc _ _)).from _
        have hO1a := (hO1.alloc (.cells #[.slice (some ad) l.length c] 22)).alloc (.cells #[.func (.func 26) #[] #[.pointer (some ⟨W.heap.size, 0, none⟩)]] 59)
        have hM1a := hMX1.keeps ((KeepsOthers.alloc X1 (.cells #[.slice (some ad) l.length c] 22)).trans (KeepsOthers.alloc _ (.cells #[.func (.func 26) #[] #[.pointer (some ⟨W.heap.size, 0, none⟩)]] 59)))
        have hrow1 := HROW.out.below (hK0.1.trans (hKX1.1.trans hKX1a.1))
        obtain ⟨Y1, hY1⟩ : ∃ Y1, Y1 = (X1.alloc (.cells #[.slice (some ad) l.length c] 22)).alloc (.cells #[.func (.func 26) #[] #[.pointer (some ⟨W.heap.size, 0, none⟩)]] 59) := ⟨_, rfl⟩
        have hsY : Y1.heap.size = X1.heap.size + 2 := by rw [hY1]; simp
        rw [← hY1] at bW1 bF1 b52 hr1' hKX1a hkX1a hO1a hM1a hrow1 ⊢
        clear hY1
        have HSY := Aside0.mk hsY
        have hsY0 : w.heap.size ≤ Y1.heap.size := by omega
        have hsY1 : X1.heap.size ≤ Y1.heap.size := by omega
        clear hsY
        have bW1z : Boxed Y1 X1.heap.size 22 (.slice (some ad) zs.length c) := by rw [HZL.out]; exact bW1
        refine wpIn_rangeFunc_ownN (l₀ := l1) (r₀ := r1) rfl hr1' (by decide) (gf := 32) (lb := #[.pointer (some ⟨X1.heap.size, 0, none⟩), .pointer (some ⟨X1.heap.size + 1, 0, none⟩)]) rfl trivial (enters_of Try.func32 (by kernel_rfl) rfl)
          ((waits_stops 6 _ _ W.heap.size w.heap.size (some ad) c zs z.id (by have := HZL.out; omega) Y1 bW1z bF1 _ b52 hrow1 hsY0).inRound l1) Kp.t (Kp.b hsY0) (Below.refl _ _) (fun _ => rfl)
          (fun pre' X => OutAt w.heap.size (w.heap.size + 1) X (acc1 ++ pre'.flatMap fun s : Sub zs => pairsQ z.id (x.1 : Nat) x.2.ch (l.getD s.1.1 z38)) ∧ (Marks w.heap.size ds X ∧ (Kp w.heap.size X1 X ∧ KeepsFrom W0.heap.size X1 X)))
          (fun _ _ _ => False)
          (OwnFrom.and (own_out _ _ _ _) (OwnFrom.and (own_marks (fun d hd D e => Nat.lt_of_lt_of_le (hM0.lt d hd D e) (Nat.le_trans hKX1.1.size hsY1))) (OwnFrom.and (own_Kp hs1 hsY0) (ownFrom_keepsFrom hsY1))))
          (fun _ _ _ _ _ hs _ _ => hs)
          ⟨by simpa using hO1a, hM1a, hKX1a, hkX1a⟩
          (fun s a' X => ∃ Bq, X.heap[Bq]? = some (.cells #[.int .i64 s.1.2.id, .slice s.1.2.A s.1.2.n s.1.2.c] 38 (0, 0)) ∧ a' = { tmps := #[.slice (some ad) l.length c, .pointer (some ⟨w.heap.size, 0, none⟩), .slice none 0 0, .pointer (some ⟨w.heap.size + 1, 0, none⟩), undef, .pointer (some ⟨W.heap.size, 0, none⟩), .pointer (some ⟨Bi, 0, none⟩), .pointer (some ⟨Bi + 1, 0, none⟩), undef, .pointer (some ⟨Bq, 0, none⟩), undef, .slice (some ad) l.length c, .bool true, .bool false, undef, .slice (some ad) l.length c, .int .i64 l.length, .int .i64 k, .bool true, .pointer (some (ad.add (k * 2))), .agg #[.int .i64 z.id, .slice z.A z.n z.c], .pointer (some ⟨W.heap.size, 1, none⟩), .slice z.A z.n z.c, .func (.func 31) #[] #[.pointer (some ⟨W.heap.size + 1, 0, none⟩)], .func (.func 30) #[] #[.pointer (some ⟨W.heap.size + 1 + 1, 0, none⟩), .pointer (some ⟨W.heap.size + 1 + 1 + 1, 0, none⟩)], .int .i64 (x.1 : Nat), encA x.2, .slice (some ad) l.length c, .func (.func 26) #[] #[.pointer (some ⟨W.heap.size, 0, none⟩)], .func (.func 32) #[] #[.pointer (some ⟨X1.heap.size, 0, none⟩), .pointer (some ⟨X1.heap.size + 1, 0, none⟩)], .int .i64 (s.1.1 : Nat), encW s.1.2, undef, undef, undef, undef, undef, undef, undef, undef, undef, undef, undef, undef, undef, undef, undef, undef, undef, undef, undef, undef, u52, undef], defers := [] })
          (fun s a' _ X Y row hs hg hr => by obtain ⟨Bq, h1, h3⟩ := hs; exact ⟨Bq, own_cells (β := Unit) () X Y row h1 hg hr, h3⟩)
          ?assign2 ?body2 ?done2 ?stop2
        case assign2 =>
          rintro l' pre' s X K ⟨hO, hMX, hKX, hkX⟩ hK
          have hsX := Nat.le_trans hs1 hKX.1.size
          dsimp only [encW]
          gi_wp2
          exact hK _ _ ((KeepsOthers.alloc _ _).from _) (Kp.alloc ⟨Below.refl _ _, KT.refl _⟩ hsX _) ⟨hO.alloc _, hMX.keeps (KeepsOthers.alloc _ _), hKX.alloc hsX _, hkX.trans ((KeepsOthers.alloc _ _).from _)⟩ ⟨X.heap.size, heap_alloc_new X _, rfl⟩
        case body2 =>
          rintro l2 pre' s a' X2 hl2 ⟨r2, hr2⟩ ⟨hO2, hM2, hKX2, hkX2⟩ ⟨Bq, bq, rfl⟩ hlt2
          have hs2 : w.heap.size ≤ X2.heap.size := Nat.le_trans hs1 hKX2.1.size
          have cq := (cell_of_row X2 Bq 1 _ _ _ bq).trans rfl
          have ca := (cell_of_row X2 (Bi + 1) 0 _ _ _ (hKX2.2.2 _ _ _ _ ba (by decide) (by decide))).trans rfl
          replace cq : X2.cell? ⟨Bq, 1, none⟩ = some (.slice s.1.2.A s.1.2.n s.1.2.c) := cq
          replace ca : X2.cell? ⟨Bi + 1, 0, none⟩ = some (.int .i64 x.2.ch) := ca
          gi_wp2_with (fail)
          refine wpIn_mono (Q := fun e a' X => e = .normal ∧ a' = { tmps := #[.slice (some ad) l.length c, .pointer (some ⟨w.heap.size, 0, none⟩), .slice none 0 0, .pointer (some ⟨w.heap.size + 1, 0, none⟩), undef, .pointer (some ⟨W.heap.size, 0, none⟩), .pointer (some ⟨Bi, 0, none⟩), .pointer (some ⟨Bi + 1, 0, none⟩), undef, .pointer (some ⟨Bq, 0, none⟩), undef, .slice (some ad) l.length c, .bool true, .bool false, undef, .slice (some ad) l.length c, .int .i64 l.length, .int .i64 k, .bool true, .pointer (some (ad.add (k * 2))), .agg #[.int .i64 z.id, .slice z.A z.n z.c], .pointer (some ⟨W.heap.size, 1, none⟩), .slice z.A z.n z.c, .func (.func 31) #[] #[.pointer (some ⟨W.heap.size + 1, 0, none⟩)], .func (.func 30) #[] #[.pointer (some ⟨W.heap.size + 1 + 1, 0, none⟩), .pointer (some ⟨W.heap.size + 1 + 1 + 1, 0, none⟩)], .int .i64 (x.1 : Nat), encA x.2, .slice (some ad) l.length c, .func (.func 26) #[] #[.pointer (some ⟨W.heap.size, 0, none⟩)], .func (.func 32) #[] #[.pointer (some ⟨X1.heap.size, 0, none⟩), .pointer (some ⟨X1.heap.size + 1, 0, none⟩)], .int .i64 (s.1.1 : Nat), encW s.1.2, .pointer (some ⟨Bq, 1, none⟩), .slice s.1.2.A s.1.2.n s.1.2.c, .pointer (some ⟨Bi + 1, 0, none⟩), .int .i64 x.2.ch, .func (.func 33) #[] #[.pointer (some ⟨X2.heap.size, 0, none⟩)], .func (.func 30) #[] #[.pointer (some ⟨X2.heap.size + 1, 0, none⟩), .pointer (some ⟨X2.heap.size + 1 + 1, 0, none⟩)], undef, undef, undef, undef, undef, undef, undef, undef, undef, undef, undef, undef, undef, undef, u52, undef], defers := [] } ∧ X = (((X2.alloc (.cells #[.int .i64 x.2.ch] 3)).alloc (.cells #[.slice s.1.2.A s.1.2.n s.1.2.c] 36)).alloc (.cells #[.func (.func 33) #[] #[.pointer (some ⟨X2.heap.size, 0, none⟩)]] 54)).drew) ?region ?go
          case region =>
            have cq2 : ∀ o : Obj, (X2.drew.alloc o).cell? ⟨Bq, 1, none⟩ = some (.slice s.1.2.A s.1.2.n s.1.2.c) := fun o => pw_cell_below (below_alloc (below_drew (Below.refl _ X2)) o) cq
            have cq3 : ∀ o : Obj, (X2.alloc o).drew.cell? ⟨Bq, 1, none⟩ = some (.slice s.1.2.A s.1.2.n s.1.2.c) := fun o => pw_cell_below (below_drew (below_alloc (Below.refl _ X2) o)) cq
            have cq4 : ∀ o : Obj, (X2.alloc o).cell? ⟨Bq, 1, none⟩ = some (.slice s.1.2.A s.1.2.n s.1.2.c) := fun o => pw_cell_below (below_alloc (Below.refl _ X2) o) cq
            have hmx : Try.prog.follows .mixedOrders = true := by kernel_rfl
            gi_region_with_o (first | (refine ⟨trivial, ?_⟩; gi_at_call 27; refine (CallsIn.inRound l2 (CallsIn.inRound l1 (callsIn_wide.2 (receivers_any x.2.ch _)))).mono ?_; rintro e w2 ⟨rfl, rfl⟩) | (refine ⟨trivial, ?_⟩; gi_at_call 23; refine (CallsIn.inRound l2 (CallsIn.inRound l1 (callsIn_wide.2 (that23_any _ _ _ 33 _ _)))).mono ?_; rintro e w3 ⟨rfl, rfl⟩))
            all_goals gi_wp2
            all_goals fail
          case go =>
            rintro e a' X ⟨rfl, rfl, hX3⟩
            have hzl2 : s.1.1 < l.length := by have := (List.getElem?_eq_some_iff.1 s.2).1; have := HZL.out; omega
            obtain ⟨q1, q2, q3⟩ := HZ.out s.1.1 _ s.1.2 (List.getElem?_eq_getElem hzl2) s.2
            obtain ⟨aq, haq, haqz, haqr⟩ := rawA q3
            have bN3 : Boxed X X2.heap.size 3 (.int .i64 x.2.ch) := by rw [hX3]; exact ((Boxed.new X2 3 (.int .i64 x.2.ch)).alloc _).alloc _
            have bS3 : Boxed X (X2.heap.size + 1) 36 (.slice s.1.2.A aq.length s.1.2.c) := by
              rw [hX3, haq, ← q2]
              have h := Boxed.new (X2.alloc (.cells #[.int .i64 x.2.ch] 3)) 36 (.slice s.1.2.A s.1.2.n s.1.2.c)
              rw [World.size_alloc] at h
              exact h.alloc _
            have bH3 : Boxed X (X2.heap.size + 1 + 1) 54 (.func (.func 33) #[] #[.pointer (some ⟨X2.heap.size, 0, none⟩)]) := by
              rw [hX3]
              have h := Boxed.new ((X2.alloc (.cells #[.int .i64 x.2.ch] 3)).alloc (.cells #[.slice s.1.2.A s.1.2.n s.1.2.c] 36)) 54 (.func (.func 33) #[] #[.pointer (some ⟨X2.heap.size, 0, none⟩)])
              simp only [World.size_alloc] at h
              exact h
            have hK3 : Kp w.heap.size X2 X := by
              rw [hX3]
              have h := ((Kp.alloc ⟨Below.refl _ _, KT.refl _⟩ hs2 (.cells #[.int .i64 x.2.ch] 3)).alloc (by simp; omega) (.cells #[.slice s.1.2.A s.1.2.n s.1.2.c] 36)).alloc (by simp; omega) (.cells #[.func (.func 33) #[] #[.pointer (some ⟨X2.heap.size, 0, none⟩)]] 54)
              exact ⟨below_drew h.1, h.2⟩
            have hk3 : ∀ B, KeepsFrom B X2 X := by
              intro B
              rw [hX3]
              exact ((((KeepsOthers.alloc _ _).trans (KeepsOthers.alloc _ _)).trans (KeepsOthers.alloc _ _)).trans (KeepsOthers.drew _)).from _
            have hO3 : OutAt w.heap.size (w.heap.size + 1) X (acc1 ++ pre'.flatMap fun s : Sub zs => pairsQ z.id (x.1 : Nat) x.2.ch (l.getD s.1.1 z38)) := by rw [hX3]; exact ((hO2.alloc _).alloc _).alloc _
            have hM3 : Marks w.heap.size ds X := by
              rw [hX3]
              exact hM2.keeps ((((KeepsOthers.alloc _ _).trans (KeepsOthers.alloc _ _)).trans (KeepsOthers.alloc _ _)).trans (KeepsOthers.drew _))
            have hr3 : X.heap[l2]? = some (.loop r2) := by
              rw [hX3]
              exact heap_keep hr2 (below_drew (below_alloc (below_alloc (below_alloc (Below.refl _ _) _) _) _))
            have hacc2 : (acc1 ++ pre'.flatMap fun s : Sub zs => pairsQ z.id (x.1 : Nat) x.2.ch (l.getD s.1.1 z38)).length ≤ 5000 * (5000 * 5000) + 5000 * (5000 * 5000) + 5000 * 5000 := by
              rw [List.length_append]
              refine Nat.add_le_add hacc1 (Nat.le_trans (flatMap_len _ (arms l) _ (fun y _ => Nat.le_trans (pairsQ_len _ _ _ _) (arms_getD l _))) (Nat.mul_le_mul ?_ (by omega)))
              have := HZL.out
              omega
            have haql : aq.length ≤ arms l := by rw [haq]; exact arms_mem l _ (List.getElem_mem hzl2)
            obtain ⟨acc2, hac2⟩ : ∃ acc2, acc2 = acc1 ++ pre'.flatMap fun s : Sub zs => pairsQ z.id (x.1 : Nat) x.2.ch (l.getD s.1.1 z38) := ⟨_, rfl⟩
            rw [← hac2] at hO3 hacc2
            have HAC2 := Aside0.mk hac2
            have Q1 := Aside0.mk q1
            have hs3 : w.heap.size ≤ X.heap.size := Nat.le_trans hs2 hK3.1.size
            have hKw : Below w.heap.size w X := hK0.1.trans (hKX1.1.trans (hKX2.1.trans hK3.1))
            have c5X := hKX2.2.2 _ _ _ _ b51 (by decide) (by decide)
            have biX := hKX2.2.2 _ _ _ _ bi (by decide) (by decide)
            have baX := hKX2.2.2 _ _ _ _ ba (by decide) (by decide)
            clear hac2 q1 q2 q3 hX3
            dsimp only
            gi_wp2_with (fail)
            refine wpIn_rangeFunc_ownN (l₀ := l2) (r₀ := r2) rfl hr3 (by decide) (gf := 30) (lb := #[.pointer (some ⟨X2.heap.size + 1, 0, none⟩), .pointer (some ⟨X2.heap.size + 1 + 1, 0, none⟩)]) rfl trivial (enters_of Try.func30 (by kernel_rfl) rfl)
              (((armsR_stops 4 _ _ X2.heap.size w.heap.size s.1.2.A s.1.2.c aq x.2.ch (by omega) X bS3 bH3 bN3 (haqr.below hKw) hs3).inRound l1).inRound l2) Kp.t (Kp.b hs3) (Below.refl _ _) (fun _ => rfl)
              (fun pre'' Y => OutAt w.heap.size (w.heap.size + 1) Y (acc2 ++ pre''.map fun y => (⟨z.id, (x.1 : Nat), s.1.2.id, (y.1 : Nat), x.2.ch⟩ : S47)) ∧ (Marks w.heap.size ds Y ∧ (Kp w.heap.size X2 Y ∧ KeepsFrom W0.heap.size X2 Y)))
              (fun _ _ _ => False)
              (OwnFrom.and (own_out _ _ _ _) (OwnFrom.and (own_marks hM3.lt) (OwnFrom.and (own_Kp hs2 hs3) (ownFrom_keepsFrom hK3.1.size))))
              (fun _ _ _ _ _ hs _ _ => hs)
              ⟨by simpa using hO3, hM3, hK3, hk3 _⟩
              (fun y a' _ => a' = { tmps := #[.slice (some ad) l.length c, .pointer (some ⟨w.heap.size, 0, none⟩), .slice none 0 0, .pointer (some ⟨w.heap.size + 1, 0, none⟩), undef, .pointer (some ⟨W.heap.size, 0, none⟩), .pointer (some ⟨Bi, 0, none⟩), .pointer (some ⟨Bi + 1, 0, none⟩), undef, .pointer (some ⟨Bq, 0, none⟩), .int .i64 (y.1 : Nat), .slice (some ad) l.length c, .bool true, .bool false, undef, .slice (some ad) l.length c, .int .i64 l.length, .int .i64 k, .bool true, .pointer (some (ad.add (k * 2))), .agg #[.int .i64 z.id, .slice z.A z.n z.c], .pointer (some ⟨W.heap.size, 1, none⟩), .slice z.A z.n z.c, .func (.func 31) #[] #[.pointer (some ⟨W.heap.size + 1, 0, none⟩)], .func (.func 30) #[] #[.pointer (some ⟨W.heap.size + 1 + 1, 0, none⟩), .pointer (some ⟨W.heap.size + 1 + 1 + 1, 0, none⟩)], .int .i64 (x.1 : Nat), encA x.2, .slice (some ad) l.length c, .func (.func 26) #[] #[.pointer (some ⟨W.heap.size, 0, none⟩)], .func (.func 32) #[] #[.pointer (some ⟨X1.heap.size, 0, none⟩), .pointer (some ⟨X1.heap.size + 1, 0, none⟩)], .int .i64 (s.1.1 : Nat), encW s.1.2, .pointer (some ⟨Bq, 1, none⟩), .slice s.1.2.A s.1.2.n s.1.2.c, .pointer (some ⟨Bi + 1, 0, none⟩), .int .i64 x.2.ch, .func (.func 33) #[] #[.pointer (some ⟨X2.heap.size, 0, none⟩)], .func (.func 30) #[] #[.pointer (some ⟨X2.heap.size + 1, 0, none⟩), .pointer (some ⟨X2.heap.size + 1 + 1, 0, none⟩)], .int .i64 (y.1 : Nat), encA y.2, undef, undef, undef, undef, undef, undef, undef, undef, undef, undef, undef, undef, u52, undef], defers := [] })
              (fun _ _ _ _ _ _ hs _ _ => hs)
              ?assign3 ?body3 ?done3 ?stop3
            case assign3 =>
              rintro l' pre'' y Y K hI hK
              gi_wp2
              exact hK _ _ (KeepsFrom.refl _ _) ⟨Below.refl _ _, KT.refl _⟩ hI rfl
            case body3 =>
              rintro l' pre'' y a' Y hl' _ ⟨hO, hMY, hKY, hkY⟩ rfl hlt'
              have hsY3 := Nat.le_trans hs2 hKY.1.size
              obtain ⟨ys, hys⟩ : ∃ ys, ys = acc2 ++ pre''.map fun y => (⟨z.id, (x.1 : Nat), s.1.2.id, (y.1 : Nat), x.2.ch⟩ : S47) := ⟨_, rfl⟩
              rw [← hys] at hO
              have hxl : ys.length + 1 ≤ 2000000000000 := by rw [hys]; simp only [List.length_append, List.length_map]; omega
              have HYS := Aside0.mk hys
              clear hys
              obtain ⟨v, hv, hR⟩ := hO
              obtain ⟨_, inner, hown, hrep⟩ := hR
              have cv := hv.cell
              have c5 : Y.cell? ⟨W.heap.size, 0, none⟩ = some (.int .i64 z.id) := (cell_of_row Y _ 0 _ _ _ (hKY.2.2 _ _ _ _ c5X (by decide) (by decide))).trans rfl
              have ci : Y.cell? ⟨Bi, 0, none⟩ = some (.int .i64 (x.1 : Nat)) := (cell_of_row Y _ 0 _ _ _ (hKY.2.2 _ _ _ _ biX (by decide) (by decide))).trans rfl
              have caY : Y.cell? ⟨Bi + 1, 0, none⟩ = some (.int .i64 x.2.ch) := (cell_of_row Y _ 0 _ _ _ (hKY.2.2 _ _ _ _ baX (by decide) (by decide))).trans rfl
              have cqY : Y.cell? ⟨Bq, 0, none⟩ = some (.int .i64 s.1.2.id) := (cell_of_row Y _ 0 _ _ _ (hKY.2.2 _ _ _ _ bq (by decide) (by decide))).trans rfl
              gi_wp2_with (gi_at_builtin; refine wpListIn_append_own _ rfl _ _ 33 rfl w.heap.size 47 i0 _ 5 40 Try.underlying33 hi0 hz0 hz1 hz2 rfl (by decide) _ _ _ rfl (hown.alloc _) ⟨Y.heap.size, 0, none⟩ 1 1 (enc47 ⟨z.id, (x.1 : Nat), s.1.2.id, (y.1 : Nat), x.2.ch⟩) rfl rfl (World.news_of_block (heap_alloc_new Y _)) (by simp [enc47, Value.oneCell']) (by simp only [maxLen]; omega) (by omega) (by simp; omega) ?_; intro v' w1' hown' hgrow _; obtain ⟨g', cap', rfl⟩ := ownsRow_succ hown'; obtain ⟨hv1, hO4, hK4, hk4⟩ := out_push hsY3 (Nat.le_succ _) hv hown hrep hown' hgrow; have hc1 := hv1.cell; have hf1 := hv1.frozen)
              refine ⟨hk4.from _, hK4, ?_, hMY.keeps hk4, hKY.t hK4, hkY.trans (hk4.from _)⟩
              rw [List.map_append, ← List.append_assoc, ← HYS.out]
              exact hO4
            case done3 =>
              rintro ys Y rfl ⟨hO, hMY, hKY, hkY⟩
              have hq : acc2 ++ (selR (recvs x.2.ch) 0 aq).map (fun y => (⟨z.id, (x.1 : Nat), s.1.2.id, (y.1 : Nat), x.2.ch⟩ : S47)) = acc1 ++ (pre' ++ [s]).flatMap fun s : Sub zs => pairsQ z.id (x.1 : Nat) x.2.ch (l.getD s.1.1 z38) := by
                rw [HAC2.out, List.flatMap_append, List.append_assoc]
                congr 2
                rw [selR_raw (p := recvs x.2.ch) (q := recvX x.2.ch) (fun j => (⟨z.id, (x.1 : Nat), s.1.2.id, (j : Nat), x.2.ch⟩ : S47)) 0 aq l[s.1.1].f1 haq (fun j a b hx hy => by
                  obtain ⟨h1, h2⟩ := haqz j a b hx hy
                  simp only [recvs, recvX, h1, h2])]
                have hg : l.getD s.1.1 z38 = l[s.1.1] := by rw [List.getD_eq_getElem?_getD, List.getElem?_eq_getElem hzl2]; rfl
                simp only [List.flatMap_cons, List.flatMap_nil, List.append_nil, pairsQ, Q1.out, hg]
              rw [hq] at hO
              clear hq
              gi_wp2_with (fail)
              exact ⟨⟨hkY.size, fun b o hb => hkY.same b o (Nat.le_trans (Nat.le_trans hKX1.1.size hsY1) hb)⟩, hKY, hO, hMY, hKX2.t hKY, hkX2.trans hkY⟩
            case stop3 =>
              rintro c' pre X _ h
              exact h.elim
        case done2 =>
          rintro ys X hys ⟨hO, hMX, hKX, hkX⟩
          have hq : acc1 ++ ys.flatMap (fun s : Sub zs => pairsQ z.id (x.1 : Nat) x.2.ch (l.getD s.1.1 z38)) = acc ++ (pre ++ [x]).flatMap fun y => pairsA l z.id (y.1 : Nat) y.2.ch := by
            rw [HAC1.out, List.flatMap_append, List.append_assoc]
            congr 2
            have h1 : ys.flatMap (fun s : Sub zs => pairsQ z.id (x.1 : Nat) x.2.ch (l.getD s.1.1 z38)) = ((ys.map (·.1)).map (fun y => (y.1, ()))).flatMap (fun q => pairsQ z.id (x.1 : Nat) x.2.ch (l.getD q.1 z38)) := by
              rw [List.flatMap_map, List.flatMap_map]
            rw [h1, hys, selR_fst (p := others z.id) (q := fun q : S38 => q.f0 != z.id) (f := fun _ => ()) (g := fun _ => ()) 0 zs l HZL.out (fun j a b ha hb => ⟨by simp only [others, (HZ.out j a b ha hb).1], rfl⟩)]
            rw [List.flatMap_map]
            simp [pairsA]
          rw [hq] at hO
          clear hq
          gi_wp2_with (fail)
          exact ⟨hkX, hKX, ⟨hO, hKX1.t hKX⟩, hMX⟩
        case stop2 =>
          rintro c' pre' X _ h
          exact h.elim
      case done =>
        rintro D ys X hD rfl ⟨⟨hO, hKX⟩, hMX⟩ hDef
        have hq : acc ++ (selR (sends 0) 0 az).flatMap (fun y => pairsA l z.id (y.1 : Nat) y.2.ch) = (l.take (k + 1)).flatMap (pairsP l) := by
          rw [List.take_succ_eq_append_getElem hlt, List.flatMap_append, HACC.out]
          congr 1
          have h1 : (selR (sends 0) 0 az).flatMap (fun y => pairsA l z.id (y.1 : Nat) y.2.ch) = ((selR (sends 0) 0 az).map (fun y => (y.1, y.2.ch))).flatMap (fun q => pairsA l z.id (q.1 : Nat) q.2) := by
            rw [List.flatMap_map]
          rw [h1, selR_fst (p := sends 0) (q := sendX 0) (f := fun y : RA => y.ch) (g := fun y : S43 => y.f0) 0 az l[k].f1 hal (fun j a b ha hb => by
            obtain ⟨h1, h2⟩ := haz j a b ha hb
            simp only [sends, sendX, h1, h2, and_self])]
          rw [List.flatMap_map]
          simp [pairsP, Z1.out]
        rw [hq] at hO
        have hM1 : Marks w.heap.size ({ target := .collected D, args := #[] } :: ds) X := by
          refine ⟨List.pairwise_cons.2 ⟨fun d' hd' e => ?_, hMX.1⟩, fun d' hd' => ?_⟩
          · have := hM0.lt d' hd' D e.symm
            omega
          · rcases List.mem_cons.1 hd' with rfl | hd'
            · exact ⟨D, rfl, Nat.le_trans hs0 hD, hDef⟩
            · exact hMX.2 d' hd'
        clear hq
        go_wp2_with (fail)
        exact ⟨⟨k + 1, _, _, _, _, _, _, _, _, _, _, rfl, by omega, ⟨hK0.t hKX⟩, ⟨hO⟩, ⟨hM1⟩, ⟨hT0.trans hKX.2⟩⟩, by simp [intOf]; omega⟩
      case stop =>
        rintro D c' pre X _ _ h _
        exact h.elim
    · obtain rfl : k = l.length := by omega
      obtain ⟨v, hv, hR⟩ := HO.out
      rw [List.take_length] at hR
      have HR' := Aside0.mk hR
      have cv := hv.cell
      clear hR hv
      go_wp2_with (fail)
      refine leaves_marks (n₀ := w.heap.size) (v := v) (fun X => (results_tmp (fn := Try.f10) rfl _ Try.prog X).trans rfl) ds W HM.out ?_
      intro W' hK' hcs
      refine ⟨v, rfl, ?_, HK.out.1.trans hK'.1⟩
      refine Kd.R_mono (Kd.R_step (Kd.R_bound HR'.out) (fun k hk hlt => ?_)) (fun _ _ => trivial)
      obtain ⟨_, _, _, q, hq, cs, hc⟩ := hk
      rw [hc]
      exact hcs k _ _ _ hc
set_option maxRecDepth 100000 in
set_option maxHeartbeats 1000000 in
theorem pairs_no (A : Option Addr) (c : Nat) (l : List S38) (w : World) (hr : Kd.C k38 w A l.length l) (hc : l.length ≤ c) (hy : rightOf l = false) :
    Calls Try.prog 10 #[.slice A l.length c] w fun e w' => ∃ v, e = .returned v ∧ Kd.R k47 47 w' w.heap.size (fun _ => True) v [] ∧ Below w.heap.size w w' := by
  have HR := Aside0.mk hr
  have HY := Aside0.mk hy
  clear hr hy
  refine (callsIn_wide (n := 9)).1 ?_
  refine callsIn_of_wp_marks Try.func10 rfl trivial ?_ rfl
  simp only [Try.ntmps10, List.size_toArray, List.length_cons, List.length_nil, Nat.reduceAdd, Nat.reduceSub, Array.replicate_succ, Array.replicate_zero, List.push_toArray, List.append_toArray, List.nil_append, List.cons_append]
  refine wpIn_wide.2 ?_
  go_wp2_with (go_at_call 22; refine (right_any A c l _ (Kd.C_alloc (Kd.C_alloc HR.out _) _) hc).mono ?_; rw [HY.out]; rintro e w1 ⟨rfl, hb1⟩; have HB1 := Aside0.mk hb1; have c1 : w1.cell? ⟨w.heap.size + 1, 0, none⟩ = some (.slice none 0 0) := by { have h := Boxed.new (w.alloc (.cells #[.slice A l.length c] 22)) 33 (.slice none 0 0); rw [World.size_alloc] at h; exact Boxed.cell (heap_keep h hb1) }; clear hb1)
  refine leaves_marks (n₀ := w.heap.size) (v := .slice none 0 0) (fun X => (results_tmp (fn := Try.f10) rfl _ Try.prog X).trans rfl) [] w1 ⟨List.Pairwise.nil, by simp⟩ ?_
  intro W' hK' hcs
  exact ⟨_, rfl, Kd.R_nil _ _ _ _ _, ((below_alloc (below_alloc (Below.refl _ w) _) _).trans (HB1.out.mono (by simp; omega))).trans hK'.1⟩
def post_Pairs.f (l0 : List S38) : Option (List S47) := if l0.length + arms l0 ≤ 5000 then some (pairsOf l0) else none
theorem post_Pairs.calls (A0 : Option Addr) (c0 : Nat) (l0 : List S38) (r : List S47) (w : World) (hr0 : Kd.C k38 w A0 l0.length l0) (hc0 : l0.length ≤ c0) (h : post_Pairs.f l0 = some r) :
    Calls Try.prog 10 #[.slice A0 l0.length c0] w fun e w' => ∃ v0_ : Value, e = .returned v0_ ∧ Kd.R k47 47 w' w.heap.size (fun _ => True) v0_ r ∧ Below w.heap.size w w' := by
  unfold post_Pairs.f at h
  split at h
  · injection h with h
    subst h
    unfold pairsOf
    by_cases hy : rightOf l0 = true
    · rw [if_pos hy]
      exact pairs_yes A0 c0 l0 w hr0 hc0 (by assumption) hy
    · rw [if_neg hy]
      exact pairs_no A0 c0 l0 w hr0 hc0 (by simpa using hy)
  · cases h
end Go.Proofs.Ytokbonceeglciaa.Given
end
section
namespace Go.Proofs.Ytokbonceeglciaa.Given
open Go.RowKit Go.Shelf Go.Proofs.YtokbonceeglciaaW.PrintWords Go.Proofs.Ytokbonceeglciaa.Print
set_option linter.unusedVariables false
set_option linter.unusedSimpArgs false
theorem selR_mem {α : Type} (p : α → Bool) : ∀ (i : Nat) (l : List α) (k : Nat) (a : α), (k, a) ∈ selR p i l ↔ i ≤ k ∧ l[k - i]? = some a ∧ p a = true
  | i, [], k, a => by simp [selR]
  | i, b :: r, k, a => by
    have ih := selR_mem p (i + 1) r k a
    have step : i < k → (b :: r)[k - i]? = r[k - (i + 1)]? := fun h => by
      rw [show k - i = (k - (i + 1)) + 1 by omega]
      rfl
    have here : (b :: r)[i - i]? = some b := by rw [Nat.sub_self]; rfl
    unfold selR
    by_cases hp : p b = true
    · rw [if_pos hp, List.mem_cons, ih]
      constructor
      · rintro (h | ⟨h1, h2, h3⟩)
        · injection h with h1 h2
          subst h1
          subst h2
          exact ⟨Nat.le_refl _, here, hp⟩
        · exact ⟨by omega, by rw [step (by omega)]; exact h2, h3⟩
      · rintro ⟨h1, h2, h3⟩
        by_cases hk : k = i
        · subst hk
          rw [here] at h2
          injection h2 with h2
          left
          rw [h2]
        · right
          exact ⟨by omega, by rw [← step (by omega)]; exact h2, h3⟩
    · rw [if_neg hp, ih]
      constructor
      · rintro ⟨h1, h2, h3⟩
        exact ⟨by omega, by rw [step (by omega)]; exact h2, h3⟩
      · rintro ⟨h1, h2, h3⟩
        by_cases hk : k = i
        · subst hk
          rw [here] at h2
          injection h2 with h2
          subst h2
          exact absurd h3 hp
        · exact ⟨by omega, by rw [← step (by omega)]; exact h2, h3⟩
theorem selR_sorted {α : Type} (p : α → Bool) : ∀ (i : Nat) (l : List α), (selR p i l).Pairwise (fun x y => x.1 < y.1)
  | i, [] => by simp [selR]
  | i, b :: r => by
    unfold selR
    split
    · refine List.Pairwise.cons ?_ (selR_sorted p (i + 1) r)
      rintro ⟨k, a⟩ hy
      have := ((selR_mem p (i + 1) r k a).1 hy).1
      show i < k
      omega
    · exact selR_sorted p (i + 1) r
theorem selR_flat {α β : Type} (p : α → Bool) (F : α → List β) : ∀ (i : Nat) (l : List α), (selR p i l).flatMap (fun y => F y.2) = l.flatMap (fun x => if p x = true then F x else [])
  | i, [] => by simp [selR]
  | i, b :: r => by
    unfold selR
    rw [List.flatMap_cons]
    split
    · rw [List.flatMap_cons, selR_flat p F (i + 1) r]
    · rw [selR_flat p F (i + 1) r, List.nil_append]
def pairsB (l : List S38) (pid i ch : Int) : List S47 := l.flatMap fun q => if (q.f0 != pid) = true then pairsQ pid i ch q else []
theorem flatMap_congr {α β : Type} {F G : α → List β} : ∀ {l : List α}, (∀ x ∈ l, F x = G x) → l.flatMap F = l.flatMap G
  | [], _ => rfl
  | a :: l, h => by
    rw [List.flatMap_cons, List.flatMap_cons, h a (by simp), flatMap_congr (fun x hx => h x (by simp [hx]))]
theorem pairsA_eq (l : List S38) (pid i ch : Int) : pairsA l pid i ch = pairsB l pid i ch := by
  unfold pairsA pairsB
  rw [← selR_flat (fun q : S38 => q.f0 != pid) (fun q => pairsQ pid i ch q) 0 l]
  refine flatMap_congr ?_
  rintro ⟨k, a⟩ hy
  have h := ((selR_mem _ 0 l k a).1 hy).2.1
  rw [Nat.sub_zero] at h
  show pairsQ pid i ch (l.getD k z38) = pairsQ pid i ch a
  rw [List.getD_eq_getElem?_getD, h]
  rfl
theorem rightGo_says : ∀ (l : List S38) (last : Int), rightGo last l = true → (∀ x ∈ l, last < x.f0) ∧ l.Pairwise (fun x y => x.f0 < y.f0)
  | [], _, _ => ⟨fun x h => by simp at h, List.Pairwise.nil⟩
  | x :: r, last, h => by
    unfold rightGo at h
    split at h
    · cases h
    · obtain ⟨h1, h2⟩ := rightGo_says r x.f0 h
      refine ⟨fun y hy => ?_, List.Pairwise.cons (fun y hy => h1 y hy) h2⟩
      rcases List.mem_cons.1 hy with rfl | hy
      · omega
      · have := h1 y hy
        omega
theorem right_says {l : List S38} (h : rightOf l = true) : (∀ x ∈ l, 0 ≤ x.f0) ∧ l.Pairwise (fun x y => x.f0 < y.f0) := by
  obtain ⟨h1, h2⟩ := rightGo_says l (-1) h
  exact ⟨fun x hx => by have := h1 x hx; omega, h2⟩
theorem ids_at {l : List S38} (h : l.Pairwise (fun x y => x.f0 < y.f0)) {i j : Nat} {x y : S38} (hi : l[i]? = some x) (hj : l[j]? = some y) (he : x.f0 = y.f0) : i = j := by
  obtain ⟨hi1, hi2⟩ := List.getElem?_eq_some_iff.1 hi
  obtain ⟨hj1, hj2⟩ := List.getElem?_eq_some_iff.1 hj
  rcases Nat.lt_trichotomy i j with h1 | h1 | h1
  · have := List.pairwise_iff_getElem.1 h i j hi1 hj1 h1
    rw [hi2, hj2] at this
    omega
  · exact h1
  · have := List.pairwise_iff_getElem.1 h j i hj1 hi1 h1
    rw [hi2, hj2] at this
    omega
def PairOf (l : List S38) (x : S47) : Prop := ∃ (p q : S38) (i j : Nat) (a b : S43), p ∈ l ∧ q ∈ l ∧ p.f1[i]? = some a ∧ q.f1[j]? = some b ∧ a.f1 = true ∧ b.f1 = false ∧ 0 < a.f0 ∧ b.f0 = a.f0 ∧ q.f0 ≠ p.f0 ∧ x = ⟨p.f0, i, q.f0, j, a.f0⟩
theorem pairsQ_mem (pid i ch : Int) (q : S38) (hch : 0 < ch) (x : S47) : x ∈ pairsQ pid i ch q ↔ ∃ (j : Nat) (b : S43), q.f1[j]? = some b ∧ b.f1 = false ∧ b.f0 = ch ∧ x = ⟨pid, i, q.f0, j, ch⟩ := by
  unfold pairsQ
  rw [List.mem_map]
  constructor
  · rintro ⟨⟨j, b⟩, hy, rfl⟩
    obtain ⟨_, h2, h3⟩ := (selR_mem _ 0 _ j b).1 hy
    rw [Nat.sub_zero] at h2
    simp only [recvX, Bool.and_eq_true, Bool.not_eq_true', decide_eq_true_eq, Bool.or_eq_true, beq_iff_eq] at h3
    exact ⟨j, b, h2, h3.1, by omega, rfl⟩
  · rintro ⟨j, b, h1, h2, h3, rfl⟩
    refine ⟨(j, b), (selR_mem _ 0 _ j b).2 ⟨Nat.zero_le _, h1, ?_⟩, rfl⟩
    simp only [recvX, Bool.and_eq_true, Bool.not_eq_true', decide_eq_true_eq, Bool.or_eq_true, beq_iff_eq]
    exact ⟨h2, by omega, .inr h3⟩
theorem pairsB_mem (l : List S38) (pid i ch : Int) (hch : 0 < ch) (x : S47) : x ∈ pairsB l pid i ch ↔ ∃ q ∈ l, q.f0 ≠ pid ∧ ∃ (j : Nat) (b : S43), q.f1[j]? = some b ∧ b.f1 = false ∧ b.f0 = ch ∧ x = ⟨pid, i, q.f0, j, ch⟩ := by
  unfold pairsB
  rw [List.mem_flatMap]
  constructor
  · rintro ⟨q, hq, hx⟩
    split at hx
    · rename_i hne
      exact ⟨q, hq, by simpa using hne, (pairsQ_mem pid i ch q hch x).1 hx⟩
    · simp at hx
  · rintro ⟨q, hq, hne, hx⟩
    refine ⟨q, hq, ?_⟩
    rw [if_pos (by simpa using hne)]
    exact (pairsQ_mem pid i ch q hch x).2 hx
theorem sendX_says {a : S43} : sendX 0 a = true ↔ a.f1 = true ∧ 0 < a.f0 := by
  simp [sendX]
theorem pairsP_mem (l : List S38) (p : S38) (x : S47) : x ∈ pairsP l p ↔ ∃ (i : Nat) (a : S43), p.f1[i]? = some a ∧ a.f1 = true ∧ 0 < a.f0 ∧ x ∈ pairsB l p.f0 i a.f0 := by
  unfold pairsP
  rw [List.mem_flatMap]
  constructor
  · rintro ⟨⟨i, a⟩, hy, hx⟩
    obtain ⟨_, h2, h3⟩ := (selR_mem _ 0 _ i a).1 hy
    rw [Nat.sub_zero] at h2
    rw [sendX_says] at h3
    rw [pairsA_eq] at hx
    exact ⟨i, a, h2, h3.1, h3.2, hx⟩
  · rintro ⟨i, a, h1, h2, h3, hx⟩
    refine ⟨(i, a), (selR_mem _ 0 _ i a).2 ⟨Nat.zero_le _, h1, sendX_says.2 ⟨h2, h3⟩⟩, ?_⟩
    rw [pairsA_eq]
    exact hx
theorem pairs_mem {l : List S38} (h : rightOf l = true) (x : S47) : x ∈ pairsOf l ↔ PairOf l x := by
  unfold pairsOf
  rw [if_pos h, List.mem_flatMap]
  constructor
  · rintro ⟨p, hp, hx⟩
    obtain ⟨i, a, h1, h2, h3, hx⟩ := (pairsP_mem l p x).1 hx
    obtain ⟨q, hq, hne, j, b, h4, h5, h6, rfl⟩ := (pairsB_mem l p.f0 i a.f0 h3 x).1 hx
    exact ⟨p, q, i, j, a, b, hp, hq, h1, h4, h2, h5, h3, h6, hne, rfl⟩
  · rintro ⟨p, q, i, j, a, b, hp, hq, h1, h4, h2, h5, h3, h6, hne, rfl⟩
    exact ⟨p, hp, (pairsP_mem l p _).2 ⟨i, a, h1, h2, h3, (pairsB_mem l p.f0 i a.f0 h3 _).2 ⟨q, hq, hne, j, b, h4, h5, h6, rfl⟩⟩⟩
def ltP (a b : S47) : Prop := a.f0 < b.f0 ∨ a.f0 = b.f0 ∧ (a.f1 < b.f1 ∨ a.f1 = b.f1 ∧ (a.f2 < b.f2 ∨ a.f2 = b.f2 ∧ a.f3 < b.f3))
theorem ltP_irrefl (a : S47) : ¬ ltP a a := by unfold ltP; omega
theorem ltP_asymm {a b : S47} (h : ltP a b) (k : ltP b a) : False := by unfold ltP at h k; omega
theorem pairs_sorted {l : List S38} (h : rightOf l = true) : (pairsOf l).Pairwise ltP := by
  obtain ⟨_, hid⟩ := right_says h
  unfold pairsOf
  rw [if_pos h]
  refine List.pairwise_flatMap.2 ⟨fun p hp => ?_, hid.imp (fun {p q} hlt x hx y hy => ?_)⟩
  · unfold pairsP
    refine List.pairwise_flatMap.2 ⟨?_, (selR_sorted _ _ _).imp ?_⟩
    · rintro ⟨i, a⟩ hy
      have hs := (sendX_says.1 ((selR_mem _ 0 _ i a).1 hy).2.2).2
      rw [pairsA_eq]
      unfold pairsB
      refine List.pairwise_flatMap.2 ⟨fun q hq => ?_, hid.imp (fun {q1 q2} hlt x hx y hy => ?_)⟩
      · split
        · unfold pairsQ
          rw [List.pairwise_map]
          refine (selR_sorted _ _ _).imp ?_
          rintro ⟨j1, b1⟩ ⟨j2, b2⟩ hlt
          unfold ltP
          simp at hlt ⊢
          omega
        · exact List.Pairwise.nil
      · split at hx
        · split at hy
          · obtain ⟨_, _, _, _, _, rfl⟩ := (pairsQ_mem _ _ _ q1 hs x).1 hx
            obtain ⟨_, _, _, _, _, rfl⟩ := (pairsQ_mem _ _ _ q2 hs y).1 hy
            unfold ltP
            simp
            omega
          · simp at hy
        · simp at hx
    · rintro ⟨i1, a1⟩ ⟨i2, a2⟩ hlt x hx y hy
      dsimp only at hlt hx hy
      rw [pairsA_eq] at hx hy
      have e1 : x.f0 = p.f0 ∧ x.f1 = (i1 : Int) := by
        unfold pairsB at hx
        obtain ⟨q, _, hx⟩ := List.mem_flatMap.1 hx
        split at hx
        · unfold pairsQ at hx
          obtain ⟨_, _, rfl⟩ := List.mem_map.1 hx
          exact ⟨rfl, rfl⟩
        · simp at hx
      have e2 : y.f0 = p.f0 ∧ y.f1 = (i2 : Int) := by
        unfold pairsB at hy
        obtain ⟨q, _, hy⟩ := List.mem_flatMap.1 hy
        split at hy
        · unfold pairsQ at hy
          obtain ⟨_, _, rfl⟩ := List.mem_map.1 hy
          exact ⟨rfl, rfl⟩
        · simp at hy
      unfold ltP
      omega
  · obtain ⟨i, a, _, _, h3, hx⟩ := (pairsP_mem l p x).1 hx
    obtain ⟨i2, a2, _, _, h32, hy⟩ := (pairsP_mem l q y).1 hy
    obtain ⟨_, _, _, _, _, _, _, _, rfl⟩ := (pairsB_mem l p.f0 i a.f0 h3 x).1 hx
    obtain ⟨_, _, _, _, _, _, _, _, rfl⟩ := (pairsB_mem l q.f0 i2 a2.f0 h32 y).1 hy
    unfold ltP
    exact .inl hlt
theorem sorted_ext : ∀ {l1 l2 : List S47}, l1.Pairwise ltP → l2.Pairwise ltP → (∀ x, x ∈ l1 ↔ x ∈ l2) → l1 = l2
  | [], [], _, _, _ => rfl
  | [], b :: l2, _, _, h => by have := (h b).2 (by simp); simp at this
  | a :: l1, [], _, _, h => by have := (h a).1 (by simp); simp at this
  | a :: l1, b :: l2, h1, h2, h => by
    have h1' := List.pairwise_cons.1 h1
    have h2' := List.pairwise_cons.1 h2
    have hab : a = b := by
      rcases List.mem_cons.1 ((h a).1 (by simp)) with e | ha
      · exact e
      · rcases List.mem_cons.1 ((h b).2 (by simp)) with e | hb
        · exact e.symm
        · exact (ltP_asymm (h1'.1 b hb) (h2'.1 a ha)).elim
    subst hab
    have hn1 : a ∉ l1 := fun ha => ltP_irrefl a (h1'.1 a ha)
    have hn2 : a ∉ l2 := fun ha => ltP_irrefl a (h2'.1 a ha)
    rw [sorted_ext h1'.2 h2'.2 (fun x => ?_)]
    constructor
    · intro hx
      rcases List.mem_cons.1 ((h x).1 (by simp [hx])) with rfl | hx2
      · exact absurd hx hn1
      · exact hx2
    · intro hx
      rcases List.mem_cons.1 ((h x).2 (by simp [hx])) with rfl | hx2
      · exact absurd hx hn2
      · exact hx2
theorem nodup_len : ∀ {l1 l2 : List S47}, l1.Nodup → (∀ x ∈ l1, x ∈ l2) → l1.length ≤ l2.length
  | [], _, _, _ => Nat.zero_le _
  | a :: l1, l2, hn, h => by
    obtain ⟨s, t, e⟩ := List.append_of_mem (h a (by simp))
    have hn' := List.nodup_cons.1 hn
    have ih := nodup_len (l1 := l1) (l2 := s ++ t) hn'.2 (fun x hx => by
      have hxl := h x (by simp [hx])
      rw [e, List.mem_append, List.mem_cons] at hxl
      rw [List.mem_append]
      rcases hxl with h1 | rfl | h1
      · exact .inl h1
      · exact absurd hx hn'.1
      · exact .inr h1)
    rw [e]
    simp only [List.length_append, List.length_cons] at ih ⊢
    omega
theorem sorted_nodup {l : List S47} (h : l.Pairwise ltP) : l.Nodup := h.imp (fun {a b} hab e => by subst e; exact ltP_irrefl _ hab)
theorem pairsB_len (pid i ch : Int) : ∀ l : List S38, (pairsB l pid i ch).length ≤ arms l
  | [] => by simp [pairsB]
  | q :: l => by
    have ih := pairsB_len pid i ch l
    unfold pairsB at ih ⊢
    rw [List.flatMap_cons, List.length_append]
    have h1 : (if (q.f0 != pid) = true then pairsQ pid i ch q else []).length ≤ q.f1.length := by
      split
      · exact pairsQ_len _ _ _ _
      · simp
    have h2 : arms (q :: l) = q.f1.length + arms l := by simp [arms]
    omega
theorem flat_len {α β : Type} (f : α → List β) (g : α → Nat) (M : Nat) : ∀ l : List α, (∀ x ∈ l, (f x).length ≤ g x * M) → (l.flatMap f).length ≤ (l.map g).sum * M
  | [], _ => by simp
  | x :: l, h => by
    have h1 := h x (by simp)
    have h2 := flat_len f g M l (fun y hy => h y (by simp [hy]))
    rw [List.flatMap_cons, List.length_append, List.map_cons, List.sum_cons, Nat.add_mul]
    omega
theorem pairsP_len2 (l : List S38) (p : S38) : (pairsP l p).length ≤ p.f1.length * arms l := by
  refine Nat.le_trans (flatMap_len _ (arms l) _ (fun x _ => by rw [pairsA_eq]; exact pairsB_len _ _ _ _)) ?_
  exact Nat.mul_le_mul_right _ (selR_len _ _ _)
theorem pairsOf_len (l : List S38) : (pairsOf l).length ≤ arms l * arms l := by
  unfold pairsOf
  split
  · exact flat_len (pairsP l) (fun p => p.f1.length) (arms l) l (fun p _ => pairsP_len2 l p)
  · simp
end Go.Proofs.Ytokbonceeglciaa.Given
end
section
namespace Go.Proofs.Ytokbonceeglciaa.Print
open Go.Proofs.Ytokbonceeglciaa.Given
open Go.RowKit Go.Proofs.YtokbonceeglciaaW.PrintWords Go.Proofs.YtokbonceeglciaaW.PrintLast Go.Proofs.YtokbonceeglciaaW.PrintMore
attribute [local go_sem] max2_int min2_int max_two min_two max_three min_three max_four min_four
set_option linter.unusedVariables false
set_option linter.unusedSimpArgs false
theorem eqA47 (d : Nat) (w : World) (x0 y0 : Int) (x1 y1 : Int) (x2 y2 : Int) (x3 y3 : Int) (x4 y4 : Int) :
    (Op.equalIn (d + 2) 47 (.agg #[.int .i64 x0, .int .i64 x1, .int .i64 x2, .int .i64 x3, .int .i64 x4]) (.agg #[.int .i64 y0, .int .i64 y1, .int .i64 y2, .int .i64 y3, .int .i64 y4])).run Try.prog w = .ok (x0 == y0 && (x1 == y1 && (x2 == y2 && (x3 == y3 && (x4 == y4))))) w := by
  refine eqA_of Try.underlying47 (by kernel_rfl) ?_
  refine eqf_cons (by rfl) (by go_simp; rfl) (by go_simp; rfl) (by go_simp) ?_
  refine eqf_cons (by rfl) (by go_simp; rfl) (by go_simp; rfl) (by go_simp) ?_
  refine eqf_cons (by rfl) (by go_simp; rfl) (by go_simp; rfl) (by go_simp) ?_
  refine eqf_cons (by rfl) (by go_simp; rfl) (by go_simp; rfl) (by go_simp) ?_
  exact eqf_last (by rfl) (by go_simp; rfl) (by go_simp; rfl) (by go_simp)
end Go.Proofs.Ytokbonceeglciaa.Print
end
section
namespace Go.Proofs.Ytokbonceeglciaa.Print
open Go.Proofs.Ytokbonceeglciaa.Given
open Go.RowKit Go.Proofs.YtokbonceeglciaaW.PrintWords Go.Proofs.YtokbonceeglciaaW.PrintLast Go.Proofs.YtokbonceeglciaaW.PrintMore
attribute [local go_sem] max2_int min2_int max_two min_two max_three min_three max_four min_four
set_option linter.unusedVariables false
set_option linter.unusedSimpArgs false
attribute [local go_sem high] eqA47
def post_right.l0 : Nat → Int → List (S38) → Int → Int → Option (Bool)
  | 0, _, _, _, _ => none
  | k + 1, x3, x6, x7, x8 => if x8 < x7 then (if 0 ≤ x8 then (if x8 < (x6.length : Int) then (if ((rd_T38 x6 x8).f0) ≤ x3 then (some false) else (post_right.l0 k ((rd_T38 x6 x8).f0) x6 x7 (wrap64 (x8 + 1)))) else (none)) else (none)) else (some true)
def post_right.f (k : Nat) (l0 : List (S38)) : Option (Bool) := post_right.l0 k (-1) l0 (l0.length : Int) 0
theorem post_right.mono_l : ∀ k, (∀ y0 y1 y2 y3, LeO (post_right.l0 k y0 y1 y2 y3) (post_right.l0 (k + 1) y0 y1 y2 y3))
  | 0 => fun _ _ _ _ r h => by simp [post_right.l0] at h
  | k + 1 => by
    have ih0 := post_right.mono_l k
    · intro y0 y1 y2 y3
      unfold post_right.l0
      repeat' first
      | (with_reducible exact ih0 _ _ _ _)
      | (with_reducible exact LeO.refl _)
      | (with_reducible exact LeO.none _)
      | (with_reducible refine LeO.ite ?_ ?_)
      | (with_reducible refine LeO.bind ?_ (fun _ => ?_))
      | exact ih0 _ _ _ _
      | exact LeO.none _
      | refine LeO.ite ?_ ?_
      | refine LeO.bind ?_ (fun _ => ?_)
theorem post_right.mono : ∀ a0 k, LeO (post_right.f k a0) (post_right.f (k + 1) a0) := by
  intro a0 k
  have ih0 := post_right.mono_l k
  unfold post_right.f
  repeat' first
      | (with_reducible exact ih0 _ _ _ _)
      | (with_reducible exact LeO.refl _)
      | (with_reducible exact LeO.none _)
      | (with_reducible refine LeO.ite ?_ ?_)
      | (with_reducible refine LeO.bind ?_ (fun _ => ?_))
      | exact ih0 _ _ _ _
      | exact LeO.none _
      | refine LeO.ite ?_ ?_
      | refine LeO.bind ?_ (fun _ => ?_)
def squintlaw13_shown.f  : Option (Bool) := (some (([(⟨2, (([(⟨5, true, (⟨0, 0, ([] : List (S41))⟩ : S41)⟩ : S43)] : List (S43)))⟩ : S38), (⟨4, (([(⟨5, false, (⟨0, 0, ([] : List (S41))⟩ : S41)⟩ : S43), (⟨1, true, (⟨0, 0, ([] : List (S41))⟩ : S41)⟩ : S43)] : List (S43)))⟩ : S38), (⟨7, (([(⟨1, false, (⟨0, 0, ([] : List (S41))⟩ : S41)⟩ : S43), (⟨2, true, (⟨0, 0, ([] : List (S41))⟩ : S41)⟩ : S43)] : List (S43)))⟩ : S38)] : List (S38)) : List (S38))).bind fun y112 => ((post_Pairs.f y112).bind fun t115 => ((post_Ins.f y112).bind fun t118 => ((post_Outs.f y112).bind fun t121 => (if (t115.length : Int) = 2 then (if 0 < (t115.length : Int) then (if (((rd_T47 t115 0).f0) == 2 && (((rd_T47 t115 0).f1) == 0 && (((rd_T47 t115 0).f2) == 4 && (((rd_T47 t115 0).f3) == 0 && (((rd_T47 t115 0).f4) == 5))))) = true then (if 1 < (t115.length : Int) then (if (((rd_T47 t115 1).f0) == 4 && (((rd_T47 t115 1).f1) == 1 && (((rd_T47 t115 1).f2) == 7 && (((rd_T47 t115 1).f3) == 0 && (((rd_T47 t115 1).f4) == 1))))) = true then (if (t118.length : Int) = 1 then (if 0 < (t118.length : Int) then (if (((rd_T47 t118 0).f0) == (-1) && (((rd_T47 t118 0).f1) == 0 && (((rd_T47 t118 0).f2) == 7 && (((rd_T47 t118 0).f3) == 0 && (((rd_T47 t118 0).f4) == 1))))) = true then (if (t121.length : Int) = 1 then (if 0 < (t121.length : Int) then (some (((rd_T47 t121 0).f0) == 7 && (((rd_T47 t121 0).f1) == 1 && (((rd_T47 t121 0).f2) == (-1) && (((rd_T47 t121 0).f3) == 0 && (((rd_T47 t121 0).f4) == 2)))))) else (none)) else (some false)) else (some false)) else (none)) else (some false)) else (some false)) else (none)) else (some false)) else (none)) else (some false)))))
set_option maxHeartbeats 8000000 in
set_option maxRecDepth 100000 in
theorem squintlaw13_shown.calls  (r : Bool) (w : World) (h : squintlaw13_shown.f  = some r) :
    Calls Try.prog 6 #[] w fun e w' => e = .returned (.bool r) ∧ Below w.heap.size w w' := by
  have hu43 := Try.underlying43
  have hu38 := Try.underlying38
  have hu47 := Try.underlying47
  have HB := Aside0.mk (Below.refl w.heap.size w)
  have H : ((some (([(⟨2, (([(⟨5, true, (⟨0, 0, ([] : List (S41))⟩ : S41)⟩ : S43)] : List (S43)))⟩ : S38), (⟨4, (([(⟨5, false, (⟨0, 0, ([] : List (S41))⟩ : S41)⟩ : S43), (⟨1, true, (⟨0, 0, ([] : List (S41))⟩ : S41)⟩ : S43)] : List (S43)))⟩ : S38), (⟨7, (([(⟨1, false, (⟨0, 0, ([] : List (S41))⟩ : S41)⟩ : S43), (⟨2, true, (⟨0, 0, ([] : List (S41))⟩ : S41)⟩ : S43)] : List (S43)))⟩ : S38)] : List (S38)) : List (S38))).bind fun y112 => ((post_Pairs.f y112).bind fun t115 => ((post_Ins.f y112).bind fun t118 => ((post_Outs.f y112).bind fun t121 => (if (t115.length : Int) = 2 then (if 0 < (t115.length : Int) then (if (((rd_T47 t115 0).f0) == 2 && (((rd_T47 t115 0).f1) == 0 && (((rd_T47 t115 0).f2) == 4 && (((rd_T47 t115 0).f3) == 0 && (((rd_T47 t115 0).f4) == 5))))) = true then (if 1 < (t115.length : Int) then (if (((rd_T47 t115 1).f0) == 4 && (((rd_T47 t115 1).f1) == 1 && (((rd_T47 t115 1).f2) == 7 && (((rd_T47 t115 1).f3) == 0 && (((rd_T47 t115 1).f4) == 1))))) = true then (if (t118.length : Int) = 1 then (if 0 < (t118.length : Int) then (if (((rd_T47 t118 0).f0) == (-1) && (((rd_T47 t118 0).f1) == 0 && (((rd_T47 t118 0).f2) == 7 && (((rd_T47 t118 0).f3) == 0 && (((rd_T47 t118 0).f4) == 1))))) = true then (if (t121.length : Int) = 1 then (if 0 < (t121.length : Int) then (some (((rd_T47 t121 0).f0) == 7 && (((rd_T47 t121 0).f1) == 1 && (((rd_T47 t121 0).f2) == (-1) && (((rd_T47 t121 0).f3) == 0 && (((rd_T47 t121 0).f4) == 2)))))) else (none)) else (some false)) else (some false)) else (none)) else (some false)) else (some false)) else (none)) else (some false)) else (none)) else (some false)))))) = some r := h
  clear h
  obtain ⟨y103, hy103⟩ : ∃ y_ : List (S43), y_ = (([(⟨5, true, (⟨0, 0, ([] : List (S41))⟩ : S41)⟩ : S43)] : List (S43))) := ⟨_, rfl⟩
  replace H : ((some (([(⟨2, y103⟩ : S38), (⟨4, (([(⟨5, false, (⟨0, 0, ([] : List (S41))⟩ : S41)⟩ : S43), (⟨1, true, (⟨0, 0, ([] : List (S41))⟩ : S41)⟩ : S43)] : List (S43)))⟩ : S38), (⟨7, (([(⟨1, false, (⟨0, 0, ([] : List (S41))⟩ : S41)⟩ : S43), (⟨2, true, (⟨0, 0, ([] : List (S41))⟩ : S41)⟩ : S43)] : List (S43)))⟩ : S38)] : List (S38)) : List (S38))).bind fun y112 => ((post_Pairs.f y112).bind fun t115 => ((post_Ins.f y112).bind fun t118 => ((post_Outs.f y112).bind fun t121 => (if (t115.length : Int) = 2 then (if 0 < (t115.length : Int) then (if (((rd_T47 t115 0).f0) == 2 && (((rd_T47 t115 0).f1) == 0 && (((rd_T47 t115 0).f2) == 4 && (((rd_T47 t115 0).f3) == 0 && (((rd_T47 t115 0).f4) == 5))))) = true then (if 1 < (t115.length : Int) then (if (((rd_T47 t115 1).f0) == 4 && (((rd_T47 t115 1).f1) == 1 && (((rd_T47 t115 1).f2) == 7 && (((rd_T47 t115 1).f3) == 0 && (((rd_T47 t115 1).f4) == 1))))) = true then (if (t118.length : Int) = 1 then (if 0 < (t118.length : Int) then (if (((rd_T47 t118 0).f0) == (-1) && (((rd_T47 t118 0).f1) == 0 && (((rd_T47 t118 0).f2) == 7 && (((rd_T47 t118 0).f3) == 0 && (((rd_T47 t118 0).f4) == 1))))) = true then (if (t121.length : Int) = 1 then (if 0 < (t121.length : Int) then (some (((rd_T47 t121 0).f0) == 7 && (((rd_T47 t121 0).f1) == 1 && (((rd_T47 t121 0).f2) == (-1) && (((rd_T47 t121 0).f3) == 0 && (((rd_T47 t121 0).f4) == 2)))))) else (none)) else (some false)) else (some false)) else (none)) else (some false)) else (some false)) else (none)) else (some false)) else (none)) else (some false)))))) = some r := by first | (rw [hy103]; with_reducible exact H) | (have H2_ := (Option.bind_some _ _).symm.trans H; rw [hy103]; with_reducible exact H2_) | (have H2_ := (Option.bind_some _ _).symm.trans H; with_reducible exact H2_) | with_reducible exact H | (rw [hy103]; exact H) | exact H
  have Ny103 := Aside0.mk hy103
  clear hy103
  obtain ⟨y106, hy106⟩ : ∃ y_ : List (S43), y_ = (([(⟨5, false, (⟨0, 0, ([] : List (S41))⟩ : S41)⟩ : S43), (⟨1, true, (⟨0, 0, ([] : List (S41))⟩ : S41)⟩ : S43)] : List (S43))) := ⟨_, rfl⟩
  replace H : ((some (([(⟨2, y103⟩ : S38), (⟨4, y106⟩ : S38), (⟨7, (([(⟨1, false, (⟨0, 0, ([] : List (S41))⟩ : S41)⟩ : S43), (⟨2, true, (⟨0, 0, ([] : List (S41))⟩ : S41)⟩ : S43)] : List (S43)))⟩ : S38)] : List (S38)) : List (S38))).bind fun y112 => ((post_Pairs.f y112).bind fun t115 => ((post_Ins.f y112).bind fun t118 => ((post_Outs.f y112).bind fun t121 => (if (t115.length : Int) = 2 then (if 0 < (t115.length : Int) then (if (((rd_T47 t115 0).f0) == 2 && (((rd_T47 t115 0).f1) == 0 && (((rd_T47 t115 0).f2) == 4 && (((rd_T47 t115 0).f3) == 0 && (((rd_T47 t115 0).f4) == 5))))) = true then (if 1 < (t115.length : Int) then (if (((rd_T47 t115 1).f0) == 4 && (((rd_T47 t115 1).f1) == 1 && (((rd_T47 t115 1).f2) == 7 && (((rd_T47 t115 1).f3) == 0 && (((rd_T47 t115 1).f4) == 1))))) = true then (if (t118.length : Int) = 1 then (if 0 < (t118.length : Int) then (if (((rd_T47 t118 0).f0) == (-1) && (((rd_T47 t118 0).f1) == 0 && (((rd_T47 t118 0).f2) == 7 && (((rd_T47 t118 0).f3) == 0 && (((rd_T47 t118 0).f4) == 1))))) = true then (if (t121.length : Int) = 1 then (if 0 < (t121.length : Int) then (some (((rd_T47 t121 0).f0) == 7 && (((rd_T47 t121 0).f1) == 1 && (((rd_T47 t121 0).f2) == (-1) && (((rd_T47 t121 0).f3) == 0 && (((rd_T47 t121 0).f4) == 2)))))) else (none)) else (some false)) else (some false)) else (none)) else (some false)) else (some false)) else (none)) else (some false)) else (none)) else (some false)))))) = some r := by first | (rw [hy106]; with_reducible exact H) | (have H2_ := (Option.bind_some _ _).symm.trans H; rw [hy106]; with_reducible exact H2_) | (have H2_ := (Option.bind_some _ _).symm.trans H; with_reducible exact H2_) | with_reducible exact H | (rw [hy106]; exact H) | exact H
  have Ny106 := Aside0.mk hy106
  clear hy106
  obtain ⟨y109, hy109⟩ : ∃ y_ : List (S43), y_ = (([(⟨1, false, (⟨0, 0, ([] : List (S41))⟩ : S41)⟩ : S43), (⟨2, true, (⟨0, 0, ([] : List (S41))⟩ : S41)⟩ : S43)] : List (S43))) := ⟨_, rfl⟩
  replace H : ((some (([(⟨2, y103⟩ : S38), (⟨4, y106⟩ : S38), (⟨7, y109⟩ : S38)] : List (S38)) : List (S38))).bind fun y112 => ((post_Pairs.f y112).bind fun t115 => ((post_Ins.f y112).bind fun t118 => ((post_Outs.f y112).bind fun t121 => (if (t115.length : Int) = 2 then (if 0 < (t115.length : Int) then (if (((rd_T47 t115 0).f0) == 2 && (((rd_T47 t115 0).f1) == 0 && (((rd_T47 t115 0).f2) == 4 && (((rd_T47 t115 0).f3) == 0 && (((rd_T47 t115 0).f4) == 5))))) = true then (if 1 < (t115.length : Int) then (if (((rd_T47 t115 1).f0) == 4 && (((rd_T47 t115 1).f1) == 1 && (((rd_T47 t115 1).f2) == 7 && (((rd_T47 t115 1).f3) == 0 && (((rd_T47 t115 1).f4) == 1))))) = true then (if (t118.length : Int) = 1 then (if 0 < (t118.length : Int) then (if (((rd_T47 t118 0).f0) == (-1) && (((rd_T47 t118 0).f1) == 0 && (((rd_T47 t118 0).f2) == 7 && (((rd_T47 t118 0).f3) == 0 && (((rd_T47 t118 0).f4) == 1))))) = true then (if (t121.length : Int) = 1 then (if 0 < (t121.length : Int) then (some (((rd_T47 t121 0).f0) == 7 && (((rd_T47 t121 0).f1) == 1 && (((rd_T47 t121 0).f2) == (-1) && (((rd_T47 t121 0).f3) == 0 && (((rd_T47 t121 0).f4) == 2)))))) else (none)) else (some false)) else (some false)) else (none)) else (some false)) else (some false)) else (none)) else (some false)) else (none)) else (some false)))))) = some r := by first | (rw [hy109]; with_reducible exact H) | (have H2_ := (Option.bind_some _ _).symm.trans H; rw [hy109]; with_reducible exact H2_) | (have H2_ := (Option.bind_some _ _).symm.trans H; with_reducible exact H2_) | with_reducible exact H | (rw [hy109]; exact H) | exact H
  have Ny109 := Aside0.mk hy109
  clear hy109
  obtain ⟨y112, hy112⟩ : ∃ y_ : List (S38), y_ = (([(⟨2, y103⟩ : S38), (⟨4, y106⟩ : S38), (⟨7, y109⟩ : S38)] : List (S38))) := ⟨_, rfl⟩
  replace H : ((post_Pairs.f y112).bind fun t115 => ((post_Ins.f y112).bind fun t118 => ((post_Outs.f y112).bind fun t121 => (if (t115.length : Int) = 2 then (if 0 < (t115.length : Int) then (if (((rd_T47 t115 0).f0) == 2 && (((rd_T47 t115 0).f1) == 0 && (((rd_T47 t115 0).f2) == 4 && (((rd_T47 t115 0).f3) == 0 && (((rd_T47 t115 0).f4) == 5))))) = true then (if 1 < (t115.length : Int) then (if (((rd_T47 t115 1).f0) == 4 && (((rd_T47 t115 1).f1) == 1 && (((rd_T47 t115 1).f2) == 7 && (((rd_T47 t115 1).f3) == 0 && (((rd_T47 t115 1).f4) == 1))))) = true then (if (t118.length : Int) = 1 then (if 0 < (t118.length : Int) then (if (((rd_T47 t118 0).f0) == (-1) && (((rd_T47 t118 0).f1) == 0 && (((rd_T47 t118 0).f2) == 7 && (((rd_T47 t118 0).f3) == 0 && (((rd_T47 t118 0).f4) == 1))))) = true then (if (t121.length : Int) = 1 then (if 0 < (t121.length : Int) then (some (((rd_T47 t121 0).f0) == 7 && (((rd_T47 t121 0).f1) == 1 && (((rd_T47 t121 0).f2) == (-1) && (((rd_T47 t121 0).f3) == 0 && (((rd_T47 t121 0).f4) == 2)))))) else (none)) else (some false)) else (some false)) else (none)) else (some false)) else (some false)) else (none)) else (some false)) else (none)) else (some false))))) = some r := by first | (rw [hy112]; with_reducible exact H) | (have H2_ := (Option.bind_some _ _).symm.trans H; rw [hy112]; with_reducible exact H2_) | (have H2_ := (Option.bind_some _ _).symm.trans H; with_reducible exact H2_) | with_reducible exact H | (rw [hy112]; exact H) | exact H
  have Ny112 := Aside0.mk hy112
  clear hy112
  replace H := Option.bind_eq_some_iff.mp H
  obtain ⟨t115, A10, H⟩ := H
  replace H : ((post_Ins.f y112).bind fun t118 => ((post_Outs.f y112).bind fun t121 => (if (t115.length : Int) = 2 then (if 0 < (t115.length : Int) then (if (((rd_T47 t115 0).f0) == 2 && (((rd_T47 t115 0).f1) == 0 && (((rd_T47 t115 0).f2) == 4 && (((rd_T47 t115 0).f3) == 0 && (((rd_T47 t115 0).f4) == 5))))) = true then (if 1 < (t115.length : Int) then (if (((rd_T47 t115 1).f0) == 4 && (((rd_T47 t115 1).f1) == 1 && (((rd_T47 t115 1).f2) == 7 && (((rd_T47 t115 1).f3) == 0 && (((rd_T47 t115 1).f4) == 1))))) = true then (if (t118.length : Int) = 1 then (if 0 < (t118.length : Int) then (if (((rd_T47 t118 0).f0) == (-1) && (((rd_T47 t118 0).f1) == 0 && (((rd_T47 t118 0).f2) == 7 && (((rd_T47 t118 0).f3) == 0 && (((rd_T47 t118 0).f4) == 1))))) = true then (if (t121.length : Int) = 1 then (if 0 < (t121.length : Int) then (some (((rd_T47 t121 0).f0) == 7 && (((rd_T47 t121 0).f1) == 1 && (((rd_T47 t121 0).f2) == (-1) && (((rd_T47 t121 0).f3) == 0 && (((rd_T47 t121 0).f4) == 2)))))) else (none)) else (some false)) else (some false)) else (none)) else (some false)) else (some false)) else (none)) else (some false)) else (none)) else (some false)))) = some r := H
  have A1 := Aside0.mk A10
  clear A10
  replace H := Option.bind_eq_some_iff.mp H
  obtain ⟨t118, A20, H⟩ := H
  replace H : ((post_Outs.f y112).bind fun t121 => (if (t115.length : Int) = 2 then (if 0 < (t115.length : Int) then (if (((rd_T47 t115 0).f0) == 2 && (((rd_T47 t115 0).f1) == 0 && (((rd_T47 t115 0).f2) == 4 && (((rd_T47 t115 0).f3) == 0 && (((rd_T47 t115 0).f4) == 5))))) = true then (if 1 < (t115.length : Int) then (if (((rd_T47 t115 1).f0) == 4 && (((rd_T47 t115 1).f1) == 1 && (((rd_T47 t115 1).f2) == 7 && (((rd_T47 t115 1).f3) == 0 && (((rd_T47 t115 1).f4) == 1))))) = true then (if (t118.length : Int) = 1 then (if 0 < (t118.length : Int) then (if (((rd_T47 t118 0).f0) == (-1) && (((rd_T47 t118 0).f1) == 0 && (((rd_T47 t118 0).f2) == 7 && (((rd_T47 t118 0).f3) == 0 && (((rd_T47 t118 0).f4) == 1))))) = true then (if (t121.length : Int) = 1 then (if 0 < (t121.length : Int) then (some (((rd_T47 t121 0).f0) == 7 && (((rd_T47 t121 0).f1) == 1 && (((rd_T47 t121 0).f2) == (-1) && (((rd_T47 t121 0).f3) == 0 && (((rd_T47 t121 0).f4) == 2)))))) else (none)) else (some false)) else (some false)) else (none)) else (some false)) else (some false)) else (none)) else (some false)) else (none)) else (some false))) = some r := H
  have A2 := Aside0.mk A20
  clear A20
  replace H := Option.bind_eq_some_iff.mp H
  obtain ⟨t121, A30, H⟩ := H
  replace H : (if (t115.length : Int) = 2 then (if 0 < (t115.length : Int) then (if (((rd_T47 t115 0).f0) == 2 && (((rd_T47 t115 0).f1) == 0 && (((rd_T47 t115 0).f2) == 4 && (((rd_T47 t115 0).f3) == 0 && (((rd_T47 t115 0).f4) == 5))))) = true then (if 1 < (t115.length : Int) then (if (((rd_T47 t115 1).f0) == 4 && (((rd_T47 t115 1).f1) == 1 && (((rd_T47 t115 1).f2) == 7 && (((rd_T47 t115 1).f3) == 0 && (((rd_T47 t115 1).f4) == 1))))) = true then (if (t118.length : Int) = 1 then (if 0 < (t118.length : Int) then (if (((rd_T47 t118 0).f0) == (-1) && (((rd_T47 t118 0).f1) == 0 && (((rd_T47 t118 0).f2) == 7 && (((rd_T47 t118 0).f3) == 0 && (((rd_T47 t118 0).f4) == 1))))) = true then (if (t121.length : Int) = 1 then (if 0 < (t121.length : Int) then (some (((rd_T47 t121 0).f0) == 7 && (((rd_T47 t121 0).f1) == 1 && (((rd_T47 t121 0).f2) == (-1) && (((rd_T47 t121 0).f3) == 0 && (((rd_T47 t121 0).f4) == 2)))))) else (none)) else (some false)) else (some false)) else (none)) else (some false)) else (some false)) else (none)) else (some false)) else (none)) else (some false)) = some r := H
  have A3 := Aside0.mk A30
  clear A30
  by_cases c4 : (t115.length : Int) = 2
  · rw [if_pos c4] at H
    have c4b0 : ((t115.length : Int) == 2) = true := beq_iff_eq.mpr c4
    have c4b1 : ((t115.length : Int) != 2) = false := bne_eq_false_iff_eq.mpr c4
    clear c4
    by_cases c5 : 0 < (t115.length : Int)
    · rw [if_pos c5] at H
      have c5b0 : decide (0 < (t115.length : Int)) = true := decide_eq_true c5
      have c5b1 : decide (0 < t115.length) = true := decide_eq_true (by omega)
      clear c5
      by_cases c6 : (((rd_T47 t115 0).f0) == 2 && (((rd_T47 t115 0).f1) == 0 && (((rd_T47 t115 0).f2) == 4 && (((rd_T47 t115 0).f3) == 0 && (((rd_T47 t115 0).f4) == 5))))) = true
      · rw [if_pos c6] at H
        have c6b0 : (((rd_T47 t115 0).f0) == 2 && (((rd_T47 t115 0).f1) == 0 && (((rd_T47 t115 0).f2) == 4 && (((rd_T47 t115 0).f3) == 0 && (((rd_T47 t115 0).f4) == 5))))) = true := c6
        (try (have c6b1 : decide (((rd_T47 t115 0).f0) = 2 && (((rd_T47 t115 0).f1) == 0 && (((rd_T47 t115 0).f2) == 4 && (((rd_T47 t115 0).f3) == 0 && (((rd_T47 t115 0).f4) == 5))))) = true := by simpa using c6))
        (try (have c6b2 : (((rd_T47 t115 0).f0) == 2 && (((rd_T47 t115 0).f1) == 0 && (((rd_T47 t115 0).f2) == 4 && (((rd_T47 t115 0).f3) == 0 && (((rd_T47 t115 0).f4) == 5))))) = true := by simpa using c6))
        clear c6
        by_cases c7 : 1 < (t115.length : Int)
        · rw [if_pos c7] at H
          have c7b0 : decide (1 < (t115.length : Int)) = true := decide_eq_true c7
          have c7b1 : decide (1 < t115.length) = true := decide_eq_true (by omega)
          clear c7
          by_cases c8 : (((rd_T47 t115 1).f0) == 4 && (((rd_T47 t115 1).f1) == 1 && (((rd_T47 t115 1).f2) == 7 && (((rd_T47 t115 1).f3) == 0 && (((rd_T47 t115 1).f4) == 1))))) = true
          · rw [if_pos c8] at H
            have c8b0 : (((rd_T47 t115 1).f0) == 4 && (((rd_T47 t115 1).f1) == 1 && (((rd_T47 t115 1).f2) == 7 && (((rd_T47 t115 1).f3) == 0 && (((rd_T47 t115 1).f4) == 1))))) = true := c8
            (try (have c8b1 : decide (((rd_T47 t115 1).f0) = 4 && (((rd_T47 t115 1).f1) == 1 && (((rd_T47 t115 1).f2) == 7 && (((rd_T47 t115 1).f3) == 0 && (((rd_T47 t115 1).f4) == 1))))) = true := by simpa using c8))
            (try (have c8b2 : (((rd_T47 t115 1).f0) == 4 && (((rd_T47 t115 1).f1) == 1 && (((rd_T47 t115 1).f2) == 7 && (((rd_T47 t115 1).f3) == 0 && (((rd_T47 t115 1).f4) == 1))))) = true := by simpa using c8))
            clear c8
            by_cases c9 : (t118.length : Int) = 1
            · rw [if_pos c9] at H
              have c9b0 : ((t118.length : Int) == 1) = true := beq_iff_eq.mpr c9
              have c9b1 : ((t118.length : Int) != 1) = false := bne_eq_false_iff_eq.mpr c9
              clear c9
              by_cases c10 : 0 < (t118.length : Int)
              · rw [if_pos c10] at H
                have c10b0 : decide (0 < (t118.length : Int)) = true := decide_eq_true c10
                have c10b1 : decide (0 < t118.length) = true := decide_eq_true (by omega)
                clear c10
                by_cases c11 : (((rd_T47 t118 0).f0) == (-1) && (((rd_T47 t118 0).f1) == 0 && (((rd_T47 t118 0).f2) == 7 && (((rd_T47 t118 0).f3) == 0 && (((rd_T47 t118 0).f4) == 1))))) = true
                · rw [if_pos c11] at H
                  have c11b0 : (((rd_T47 t118 0).f0) == (-1) && (((rd_T47 t118 0).f1) == 0 && (((rd_T47 t118 0).f2) == 7 && (((rd_T47 t118 0).f3) == 0 && (((rd_T47 t118 0).f4) == 1))))) = true := c11
                  (try (have c11b1 : decide (((rd_T47 t118 0).f0) = (-1) && (((rd_T47 t118 0).f1) == 0 && (((rd_T47 t118 0).f2) == 7 && (((rd_T47 t118 0).f3) == 0 && (((rd_T47 t118 0).f4) == 1))))) = true := by simpa using c11))
                  (try (have c11b2 : (((rd_T47 t118 0).f0) == (-1) && (((rd_T47 t118 0).f1) == 0 && (((rd_T47 t118 0).f2) == 7 && (((rd_T47 t118 0).f3) == 0 && (((rd_T47 t118 0).f4) == 1))))) = true := by simpa using c11))
                  clear c11
                  by_cases c12 : (t121.length : Int) = 1
                  · rw [if_pos c12] at H
                    have c12b0 : ((t121.length : Int) == 1) = true := beq_iff_eq.mpr c12
                    have c12b1 : ((t121.length : Int) != 1) = false := bne_eq_false_iff_eq.mpr c12
                    clear c12
                    by_cases c13 : 0 < (t121.length : Int)
                    · rw [if_pos c13] at H
                      have c13b0 : decide (0 < (t121.length : Int)) = true := decide_eq_true c13
                      have c13b1 : decide (0 < t121.length) = true := decide_eq_true (by omega)
                      clear c13
                      obtain rfl := Option.some.inj H
                      go_enter Try.func6, Try.ntmps6
                      go_wp2_with (first | ((with_reducible refine gate_dst (N := 6) rfl ?_); (try (refine gate_guard (by rfl) ?_; dsimp only)); refine Kd.N_lit k43 _ 43 ?hg (N' := 6) ?hd (xs := ([(⟨5, true, (⟨0, 0, ([] : List (S41))⟩ : S41)⟩ : S43)] : List (S43))) (inner := [.int .i64 5, .bool true, .int .i64 0, .int .i64 0, .slice none 0 0]) (ok := (fun _ => True)) (okp := (fun _ => True)) ?hr ?hp (fun _ hk => hk) ((show ∀ k_, w.heap.size ≤ k_ → (fun _ => True) k_ from fun k_ hk => trivial) _ (Nat.le_refl _)) (Below.refl _ _) (Nat.le_refl _) (by simp) ?_; (case hd => rfl); (case hg => rfl); (case hr => first | (go_simp; done) | (go_simp; rfl)); (case hp => exact (Reps.c5 (show Kd.FK k43 _ _ (⟨5, true, (⟨0, 0, ([] : List (S41))⟩ : S41)⟩ : S43) [.int .i64 5, .bool true, .int .i64 0, .int .i64 0, .slice none 0 0] from (k43_mkF _ _ (⟨5, true, (⟨0, 0, ([] : List (S41))⟩ : S41)⟩ : S43) (Nat.le_refl _) (Kd.F_nil _ _ _))) (Reps.none _ _))); intro v104 w14 ho15 hb hg_ hnew_; clear hg_ hnew_; (first | rw [← Ny103.out] at ho15 | (simp only [Int.reduceToNat] at ho15; rw [← Ny103.out] at ho15)); have n0_ := Aside0.mk (Kd.N_lower ho15 (below_size (by repeat (first | (with_reducible first | exact HB.out | apply below_alloc | apply pw_below_drewN | apply below_drew1) | exact HB.out)))); have n1_ := Aside0.mk (below_step (by repeat (first | (with_reducible first | exact HB.out | apply below_alloc | apply pw_below_drewN | apply below_drew1) | exact HB.out)) hb); clear HB; have HO105 := n0_; have HB := n1_; clear n0_ n1_; clear hb ho15; obtain ⟨Ao16, co16, eo16⟩ := Kd.N_slice HO105.out; subst eo16) | ((with_reducible refine gate_dst (N := 10) rfl ?_); (try (refine gate_guard (by rfl) ?_; dsimp only)); refine Kd.N_lit k43 _ 43 ?hg (N' := 10) ?hd (xs := ([(⟨5, false, (⟨0, 0, ([] : List (S41))⟩ : S41)⟩ : S43), (⟨1, true, (⟨0, 0, ([] : List (S41))⟩ : S41)⟩ : S43)] : List (S43))) (inner := [.int .i64 5, .bool false, .int .i64 0, .int .i64 0, .slice none 0 0, .int .i64 1, .bool true, .int .i64 0, .int .i64 0, .slice none 0 0]) (ok := (fun k_ => some k_ ≠ (.slice Ao16 y103.length co16 : Value).ownBlock)) (okp := (fun k_ => some k_ ≠ (.slice Ao16 y103.length co16 : Value).ownBlock)) ?hr ?hp (fun _ hk => hk) ((show ∀ k_, w14.heap.size ≤ k_ → (fun k_ => some k_ ≠ (.slice Ao16 y103.length co16 : Value).ownBlock) k_ from fun k_ hk => Kd.fresh' (Kd.N_lt (by (with_reducible repeat (first | apply Kd.N_alloc | apply Kd.N_drewN | apply Kd.N_drew)); exact HO105.out)) k_ hk) _ (Nat.le_refl _)) (Below.refl _ _) (Nat.le_refl _) (by simp) ?_; (case hd => rfl); (case hg => rfl); (case hr => first | (go_simp; done) | (go_simp; rfl)); (case hp => exact (Reps.c5 (show Kd.FK k43 _ _ (⟨5, false, (⟨0, 0, ([] : List (S41))⟩ : S41)⟩ : S43) [.int .i64 5, .bool false, .int .i64 0, .int .i64 0, .slice none 0 0] from (k43_mkF _ _ (⟨5, false, (⟨0, 0, ([] : List (S41))⟩ : S41)⟩ : S43) (Nat.le_refl _) (Kd.F_nil _ _ _))) (Reps.c5 (show Kd.FK k43 _ _ (⟨1, true, (⟨0, 0, ([] : List (S41))⟩ : S41)⟩ : S43) [.int .i64 1, .bool true, .int .i64 0, .int .i64 0, .slice none 0 0] from (k43_mkF _ _ (⟨1, true, (⟨0, 0, ([] : List (S41))⟩ : S41)⟩ : S43) (Nat.le_refl _) (Kd.F_nil _ _ _))) (Reps.none _ _)))); intro v107 w17 ho18 hb hg_ hnew_; clear hg_ hnew_; (first | rw [← Ny106.out] at ho18 | (simp only [Int.reduceToNat] at ho18; rw [← Ny106.out] at ho18)); have n0_ := Aside0.mk (Kd.N_elder' (by (with_reducible repeat (first | apply Kd.N_alloc | apply Kd.N_drewN | apply Kd.N_drew)); exact HO105.out) (Kd.N_base ho18) hb); have n1_ := Aside0.mk (Kd.N_lower ho18 (below_size (by repeat (first | (with_reducible first | exact HB.out | apply below_alloc | apply pw_below_drewN | apply below_drew1) | exact HB.out)))); have n2_ := Aside0.mk (below_step (by repeat (first | (with_reducible first | exact HB.out | apply below_alloc | apply pw_below_drewN | apply below_drew1) | exact HB.out)) hb); clear HO105; clear HB; have HO105 := n0_; have HO108 := n1_; have HB := n2_; clear n0_ n1_ n2_; clear hb ho18; obtain ⟨Ao19, co19, eo19⟩ := Kd.N_slice HO108.out; subst eo19) | ((with_reducible refine gate_dst (N := 14) rfl ?_); (try (refine gate_guard (by rfl) ?_; dsimp only)); refine Kd.N_lit k43 _ 43 ?hg (N' := 14) ?hd (xs := ([(⟨1, false, (⟨0, 0, ([] : List (S41))⟩ : S41)⟩ : S43), (⟨2, true, (⟨0, 0, ([] : List (S41))⟩ : S41)⟩ : S43)] : List (S43))) (inner := [.int .i64 1, .bool false, .int .i64 0, .int .i64 0, .slice none 0 0, .int .i64 2, .bool true, .int .i64 0, .int .i64 0, .slice none 0 0]) (ok := (fun k_ => some k_ ≠ (.slice Ao16 y103.length co16 : Value).ownBlock ∧ some k_ ≠ (.slice Ao19 y106.length co19 : Value).ownBlock)) (okp := (fun k_ => some k_ ≠ (.slice Ao16 y103.length co16 : Value).ownBlock ∧ some k_ ≠ (.slice Ao19 y106.length co19 : Value).ownBlock)) ?hr ?hp (fun _ hk => hk) ((show ∀ k_, w17.heap.size ≤ k_ → (fun k_ => some k_ ≠ (.slice Ao16 y103.length co16 : Value).ownBlock ∧ some k_ ≠ (.slice Ao19 y106.length co19 : Value).ownBlock) k_ from fun k_ hk => ⟨Kd.fresh' (Kd.N_lt (by (with_reducible repeat (first | apply Kd.N_alloc | apply Kd.N_drewN | apply Kd.N_drew)); exact HO105.out)) k_ hk, Kd.fresh' (Kd.N_lt (by (with_reducible repeat (first | apply Kd.N_alloc | apply Kd.N_drewN | apply Kd.N_drew)); exact HO108.out)) k_ hk⟩) _ (Nat.le_refl _)) (Below.refl _ _) (Nat.le_refl _) (by simp) ?_; (case hd => rfl); (case hg => rfl); (case hr => first | (go_simp; done) | (go_simp; rfl)); (case hp => exact (Reps.c5 (show Kd.FK k43 _ _ (⟨1, false, (⟨0, 0, ([] : List (S41))⟩ : S41)⟩ : S43) [.int .i64 1, .bool false, .int .i64 0, .int .i64 0, .slice none 0 0] from (k43_mkF _ _ (⟨1, false, (⟨0, 0, ([] : List (S41))⟩ : S41)⟩ : S43) (Nat.le_refl _) (Kd.F_nil _ _ _))) (Reps.c5 (show Kd.FK k43 _ _ (⟨2, true, (⟨0, 0, ([] : List (S41))⟩ : S41)⟩ : S43) [.int .i64 2, .bool true, .int .i64 0, .int .i64 0, .slice none 0 0] from (k43_mkF _ _ (⟨2, true, (⟨0, 0, ([] : List (S41))⟩ : S41)⟩ : S43) (Nat.le_refl _) (Kd.F_nil _ _ _))) (Reps.none _ _)))); intro v110 w20 ho21 hb hg_ hnew_; clear hg_ hnew_; (first | rw [← Ny109.out] at ho21 | (simp only [Int.reduceToNat] at ho21; rw [← Ny109.out] at ho21)); have n0_ := Aside0.mk (Kd.N_elder' (by (with_reducible repeat (first | apply Kd.N_alloc | apply Kd.N_drewN | apply Kd.N_drew)); exact HO105.out) (Kd.N_base ho21) hb); have n1_ := Aside0.mk (Kd.N_elder' (by (with_reducible repeat (first | apply Kd.N_alloc | apply Kd.N_drewN | apply Kd.N_drew)); exact HO108.out) (Kd.N_base ho21) hb); have n2_ := Aside0.mk (Kd.N_lower ho21 (below_size (by repeat (first | (with_reducible first | exact HB.out | apply below_alloc | apply pw_below_drewN | apply below_drew1) | exact HB.out)))); have n3_ := Aside0.mk (below_step (by repeat (first | (with_reducible first | exact HB.out | apply below_alloc | apply pw_below_drewN | apply below_drew1) | exact HB.out)) hb); clear HO105; clear HO108; clear HB; have HO105 := n0_; have HO108 := n1_; have HO111 := n2_; have HB := n3_; clear n0_ n1_ n2_ n3_; clear hb ho21; obtain ⟨Ao22, co22, eo22⟩ := Kd.N_slice HO111.out; subst eo22) | ((with_reducible refine gate_dst (N := 16) rfl ?_); (try (refine gate_guard (by rfl) ?_; dsimp only)); refine Kd.N_lit k38 _ 38 ?hg (N' := 16) ?hd (xs := ([(⟨2, y103⟩ : S38), (⟨4, y106⟩ : S38), (⟨7, y109⟩ : S38)] : List (S38))) (inner := [.int .i64 2, .slice Ao16 y103.length co16, .int .i64 4, .slice Ao19 y106.length co19, .int .i64 7, .slice Ao22 y109.length co22]) (ok := (fun _ => True)) (okp := (fun _ => True)) ?hr ?hp (fun _ hk => hk) ((show ∀ k_, w20.heap.size ≤ k_ → (fun _ => True) k_ from fun k_ hk => trivial) _ (Nat.le_refl _)) (Below.refl _ _) (Nat.le_refl _) (by simp) ?_; (case hd => rfl); (case hg => rfl); (case hr => first | (go_simp; done) | (go_simp; rfl)); (case hp => exact (Reps.c2 (show Kd.FK k38 _ _ (⟨2, y103⟩ : S38) [.int .i64 2, .slice Ao16 y103.length co16] from (k38_mkF _ _ (⟨2, y103⟩ : S38) (Kd.N_reads' (Kd.N_mono (ok' := (fun _ => True)) (HO105.out) (fun k_ hk => trivial))).2.1 (Kd.N_F (Kd.N_mono (ok' := (fun _ => True)) (HO105.out) (fun k_ hk => trivial))))) (Reps.c2 (show Kd.FK k38 _ _ (⟨4, y106⟩ : S38) [.int .i64 4, .slice Ao19 y106.length co19] from (k38_mkF _ _ (⟨4, y106⟩ : S38) (Kd.N_reads' (Kd.N_mono (ok' := (fun _ => True)) (HO108.out) (fun k_ hk => trivial))).2.1 (Kd.N_F (Kd.N_mono (ok' := (fun _ => True)) (HO108.out) (fun k_ hk => trivial))))) (Reps.c2 (show Kd.FK k38 _ _ (⟨7, y109⟩ : S38) [.int .i64 7, .slice Ao22 y109.length co22] from (k38_mkF _ _ (⟨7, y109⟩ : S38) (Kd.N_reads' (Kd.N_mono (ok' := (fun _ => True)) (HO111.out) (fun k_ hk => trivial))).2.1 (Kd.N_F (Kd.N_mono (ok' := (fun _ => True)) (HO111.out) (fun k_ hk => trivial))))) (Reps.none _ _))))); intro v113 w23 ho24 hb hg_ hnew_; clear hg_ hnew_; (first | rw [← Ny112.out] at ho24 | (simp only [Int.reduceToNat] at ho24; rw [← Ny112.out] at ho24)); have n0_ := Aside0.mk (Kd.N_lower ho24 (below_size (by repeat (first | (with_reducible first | exact HB.out | apply below_alloc | apply pw_below_drewN | apply below_drew1) | exact HB.out)))); have n1_ := Aside0.mk (below_step (by repeat (first | (with_reducible first | exact HB.out | apply below_alloc | apply pw_below_drewN | apply below_drew1) | exact HB.out)) hb); clear HB; clear HO105; clear HO108; clear HO111; have HO114 := n0_; have HB := n1_; clear n0_ n1_; clear hb ho24; obtain ⟨Ao25, co25, eo25⟩ := Kd.N_slice HO114.out; subst eo25) | ((with_reducible refine gate_callee (f := 10) rfl ?_); refine goesL_ (some 18) rfl rfl Try.func10 (by kernel_rfl) rfl #[.slice Ao25 y112.length co25] rfl (by (try simp only [List.map_toArray, List.map_cons, List.map_nil]); first | done | rfl | (simp only [List.length_drop, List.length_take]; rfl)) ?_; (with_reducible refine (post_Pairs.calls _ _ y112 t115 _ ?side1 ?side2 A1.out).mono ?_); (case side1 => repeat (first | exact (Kd.N_reads' HO114.out).2.2 | (with_reducible refine Kd.C_alloc ?_ _) | (with_reducible refine Kd.C_drewN ?_ _) | (with_reducible refine Kd.C_drew ?_))); (case side2 => exact (Kd.N_reads' HO114.out).2.1); rintro e w26 ⟨v116, rfl, ho0, hb⟩; refine ⟨_, rfl, ?_⟩; have n0_ := Aside0.mk (Kd.N_elder' (by (with_reducible repeat (first | apply Kd.N_alloc | apply Kd.N_drewN | apply Kd.N_drew)); exact HO114.out) (Kd.R_base ho0) hb); have n1_ := Aside0.mk (Kd.R_lower ho0 (below_size (by repeat (first | (with_reducible first | exact HB.out | apply below_alloc | apply pw_below_drewN | apply below_drew1) | exact HB.out)))); have n2_ := Aside0.mk (below_step (by repeat (first | (with_reducible first | exact HB.out | apply below_alloc | apply pw_below_drewN | apply below_drew1) | exact HB.out)) hb); clear HO114; clear HB; have HO114 := n0_; have HO117 := n1_; have HB := n2_; clear n0_ n1_ n2_; (try clear hb); (try clear hb2); (try clear hk); (try clear hi); (try clear ho0)) | ((with_reducible refine gate_callee (f := 12) rfl ?_); refine goesL_ (some 20) rfl rfl Try.func12 (by kernel_rfl) rfl #[.slice Ao25 y112.length co25] rfl (by (try simp only [List.map_toArray, List.map_cons, List.map_nil]); first | done | rfl | (simp only [List.length_drop, List.length_take]; rfl)) ?_; (with_reducible refine (post_Ins.calls _ _ y112 t118 _ ?side1 ?side2 A2.out).mono ?_); (case side1 => repeat (first | exact (Kd.N_reads' HO114.out).2.2 | (with_reducible refine Kd.C_alloc ?_ _) | (with_reducible refine Kd.C_drewN ?_ _) | (with_reducible refine Kd.C_drew ?_))); (case side2 => exact (Kd.N_reads' HO114.out).2.1); rintro e w27 ⟨v119, rfl, ho0, hb⟩; refine ⟨_, rfl, ?_⟩; have n0_ := Aside0.mk (Kd.N_elder' (by (with_reducible repeat (first | apply Kd.N_alloc | apply Kd.N_drewN | apply Kd.N_drew)); exact HO114.out) (Kd.R_base ho0) hb); have n1_ := Aside0.mk (Kd.R_elder' (by (with_reducible repeat (first | apply Kd.R_alloc | apply Kd.R_drewN | apply Kd.R_drew)); exact HO117.out) (Kd.R_base ho0) hb); have n2_ := Aside0.mk (Kd.R_lower (Kd.R_new' ho0 (Kd.R_lt (by (with_reducible repeat (first | apply Kd.R_alloc | apply Kd.R_drewN | apply Kd.R_drew)); exact HO117.out))) (below_size (by repeat (first | (with_reducible first | exact HB.out | apply below_alloc | apply pw_below_drewN | apply below_drew1) | exact HB.out)))); have n3_ := Aside0.mk (below_step (by repeat (first | (with_reducible first | exact HB.out | apply below_alloc | apply pw_below_drewN | apply below_drew1) | exact HB.out)) hb); clear HO114; clear HO117; clear HB; have HO114 := n0_; have HO117 := n1_; have HO120 := n2_; have HB := n3_; clear n0_ n1_ n2_ n3_; (try clear hb); (try clear hb2); (try clear hk); (try clear hi); (try clear ho0)) | ((with_reducible refine gate_callee (f := 14) rfl ?_); refine goesL_ (some 22) rfl rfl Try.func14 (by kernel_rfl) rfl #[.slice Ao25 y112.length co25] rfl (by (try simp only [List.map_toArray, List.map_cons, List.map_nil]); first | done | rfl | (simp only [List.length_drop, List.length_take]; rfl)) ?_; (with_reducible refine (post_Outs.calls _ _ y112 t121 _ ?side1 ?side2 A3.out).mono ?_); (case side1 => repeat (first | exact (Kd.N_reads' HO114.out).2.2 | (with_reducible refine Kd.C_alloc ?_ _) | (with_reducible refine Kd.C_drewN ?_ _) | (with_reducible refine Kd.C_drew ?_))); (case side2 => exact (Kd.N_reads' HO114.out).2.1); rintro e w28 ⟨v122, rfl, ho0, hb⟩; refine ⟨_, rfl, ?_⟩; have n0_ := Aside0.mk (Kd.N_elder' (by (with_reducible repeat (first | apply Kd.N_alloc | apply Kd.N_drewN | apply Kd.N_drew)); exact HO114.out) (Kd.R_base ho0) hb); have n1_ := Aside0.mk (Kd.R_elder' (by (with_reducible repeat (first | apply Kd.R_alloc | apply Kd.R_drewN | apply Kd.R_drew)); exact HO117.out) (Kd.R_base ho0) hb); have n2_ := Aside0.mk (Kd.R_elder' (by (with_reducible repeat (first | apply Kd.R_alloc | apply Kd.R_drewN | apply Kd.R_drew)); exact HO120.out) (Kd.R_base ho0) hb); have n3_ := Aside0.mk (Kd.R_lower (Kd.R_new' (Kd.R_new' ho0 (Kd.R_lt (by (with_reducible repeat (first | apply Kd.R_alloc | apply Kd.R_drewN | apply Kd.R_drew)); exact HO117.out))) (Kd.R_lt (by (with_reducible repeat (first | apply Kd.R_alloc | apply Kd.R_drewN | apply Kd.R_drew)); exact HO120.out))) (below_size (by repeat (first | (with_reducible first | exact HB.out | apply below_alloc | apply pw_below_drewN | apply below_drew1) | exact HB.out)))); have n4_ := Aside0.mk (below_step (by repeat (first | (with_reducible first | exact HB.out | apply below_alloc | apply pw_below_drewN | apply below_drew1) | exact HB.out)) hb); clear HO114; clear HO117; clear HO120; clear HB; have HO114 := n0_; have HO117 := n1_; have HO120 := n2_; have HO123 := n3_; have HB := n4_; clear n0_ n1_ n2_ n3_ n4_; (try clear hb); (try clear hb2); (try clear hk); (try clear hi); (try clear ho0); obtain ⟨Ao29, co29, eo29⟩ := Kd.R_slice HO117.out; subst eo29; have p124 : 0 ≤ (0 : Int) := (by omega); have q124 : 0 < (t115.length : Int) := of_decide_eq_true (by first | (with_reducible assumption) | assumption); obtain ⟨ad124, e124, hx124_0, hx124_1, hx124_2, hx124_3, hx124_4⟩ := at_T47 (Kd.R_reads' HO117.out).2.2 0 p124 q124; cases e124; have qi124 : (0 < t115.length) = True := eq_true (by omega); (try rw [show ((0 : Int)).toNat = 0 from rfl] at hx124_0); (try rw [show 0 * 5 = 0 from rfl] at hx124_0); (try rw [Addr.add_zero'] at hx124_0); (try rw [show ((0 : Int)).toNat = 0 from rfl] at hx124_1); (try rw [show 0 * 5 = 0 from rfl] at hx124_1); (try rw [Addr.add_zero'] at hx124_1); (try rw [show ((0 : Int)).toNat = 0 from rfl] at hx124_2); (try rw [show 0 * 5 = 0 from rfl] at hx124_2); (try rw [Addr.add_zero'] at hx124_2); (try rw [show ((0 : Int)).toNat = 0 from rfl] at hx124_3); (try rw [show 0 * 5 = 0 from rfl] at hx124_3); (try rw [Addr.add_zero'] at hx124_3); (try rw [show ((0 : Int)).toNat = 0 from rfl] at hx124_4); (try rw [show 0 * 5 = 0 from rfl] at hx124_4); (try rw [Addr.add_zero'] at hx124_4); replace p124 := eq_true p124; replace q124 := eq_true q124; have p125 : 0 ≤ (1 : Int) := (by omega); have q125 : 1 < (t115.length : Int) := of_decide_eq_true (by first | (with_reducible assumption) | assumption); obtain ⟨ad125, e125, hx125_0, hx125_1, hx125_2, hx125_3, hx125_4⟩ := at_T47 (Kd.R_reads' HO117.out).2.2 1 p125 q125; obtain rfl : ad124 = ad125 := (by injection e125); (try simp only [show (1 : Int).toNat = 1 from rfl, Nat.reduceMul, Nat.reduceEqDiff, Go.Addr.add, ↓reduceIte] at hx125_0); (try simp only [show (1 : Int).toNat = 1 from rfl, Nat.reduceMul, Nat.reduceEqDiff, Go.Addr.add, ↓reduceIte] at hx125_1); (try simp only [show (1 : Int).toNat = 1 from rfl, Nat.reduceMul, Nat.reduceEqDiff, Go.Addr.add, ↓reduceIte] at hx125_2); (try simp only [show (1 : Int).toNat = 1 from rfl, Nat.reduceMul, Nat.reduceEqDiff, Go.Addr.add, ↓reduceIte] at hx125_3); (try simp only [show (1 : Int).toNat = 1 from rfl, Nat.reduceMul, Nat.reduceEqDiff, Go.Addr.add, ↓reduceIte] at hx125_4); have qi125 : (1 < t115.length) = True := eq_true (by omega); (try rw [show ((1 : Int)).toNat = 1 from rfl] at hx125_0); (try rw [show 1 * 5 = 5 from rfl] at hx125_0); (try rw [show ((1 : Int)).toNat = 1 from rfl] at hx125_1); (try rw [show 1 * 5 = 5 from rfl] at hx125_1); (try rw [show ((1 : Int)).toNat = 1 from rfl] at hx125_2); (try rw [show 1 * 5 = 5 from rfl] at hx125_2); (try rw [show ((1 : Int)).toNat = 1 from rfl] at hx125_3); (try rw [show 1 * 5 = 5 from rfl] at hx125_3); (try rw [show ((1 : Int)).toNat = 1 from rfl] at hx125_4); (try rw [show 1 * 5 = 5 from rfl] at hx125_4); replace p125 := eq_true p125; replace q125 := eq_true q125; obtain ⟨Ao30, co30, eo30⟩ := Kd.R_slice HO120.out; subst eo30; have p126 : 0 ≤ (0 : Int) := (by omega); have q126 : 0 < (t118.length : Int) := of_decide_eq_true (by first | (with_reducible assumption) | assumption); obtain ⟨ad126, e126, hx126_0, hx126_1, hx126_2, hx126_3, hx126_4⟩ := at_T47 (Kd.R_reads' HO120.out).2.2 0 p126 q126; cases e126; have qi126 : (0 < t118.length) = True := eq_true (by omega); (try rw [show ((0 : Int)).toNat = 0 from rfl] at hx126_0); (try rw [show 0 * 5 = 0 from rfl] at hx126_0); (try rw [Addr.add_zero'] at hx126_0); (try rw [show ((0 : Int)).toNat = 0 from rfl] at hx126_1); (try rw [show 0 * 5 = 0 from rfl] at hx126_1); (try rw [Addr.add_zero'] at hx126_1); (try rw [show ((0 : Int)).toNat = 0 from rfl] at hx126_2); (try rw [show 0 * 5 = 0 from rfl] at hx126_2); (try rw [Addr.add_zero'] at hx126_2); (try rw [show ((0 : Int)).toNat = 0 from rfl] at hx126_3); (try rw [show 0 * 5 = 0 from rfl] at hx126_3); (try rw [Addr.add_zero'] at hx126_3); (try rw [show ((0 : Int)).toNat = 0 from rfl] at hx126_4); (try rw [show 0 * 5 = 0 from rfl] at hx126_4); (try rw [Addr.add_zero'] at hx126_4); replace p126 := eq_true p126; replace q126 := eq_true q126; obtain ⟨Ao31, co31, eo31⟩ := Kd.R_slice HO123.out; subst eo31; have p127 : 0 ≤ (0 : Int) := (by omega); have q127 : 0 < (t121.length : Int) := of_decide_eq_true (by first | (with_reducible assumption) | assumption); obtain ⟨ad127, e127, hx127_0, hx127_1, hx127_2, hx127_3, hx127_4⟩ := at_T47 (Kd.R_reads' HO123.out).2.2 0 p127 q127; cases e127; have qi127 : (0 < t121.length) = True := eq_true (by omega); (try rw [show ((0 : Int)).toNat = 0 from rfl] at hx127_0); (try rw [show 0 * 5 = 0 from rfl] at hx127_0); (try rw [Addr.add_zero'] at hx127_0); (try rw [show ((0 : Int)).toNat = 0 from rfl] at hx127_1); (try rw [show 0 * 5 = 0 from rfl] at hx127_1); (try rw [Addr.add_zero'] at hx127_1); (try rw [show ((0 : Int)).toNat = 0 from rfl] at hx127_2); (try rw [show 0 * 5 = 0 from rfl] at hx127_2); (try rw [Addr.add_zero'] at hx127_2); (try rw [show ((0 : Int)).toNat = 0 from rfl] at hx127_3); (try rw [show 0 * 5 = 0 from rfl] at hx127_3); (try rw [Addr.add_zero'] at hx127_3); (try rw [show ((0 : Int)).toNat = 0 from rfl] at hx127_4); (try rw [show 0 * 5 = 0 from rfl] at hx127_4); (try rw [Addr.add_zero'] at hx127_4); replace p127 := eq_true p127; replace q127 := eq_true q127))
                      go_ret
                      exact ⟨by first | rfl | (simp [errW_none, errW_some] <;> rfl) | (simp [*, errW_none, errW_some] <;> rfl), by repeat (first | (with_reducible first | exact HB.out | apply below_alloc | apply pw_below_drewN | apply below_drew1) | exact HB.out)⟩
                    · rw [if_neg c13] at H
                      exact absurd H (by simp)
                  · rw [if_neg c12] at H
                    have c12b0 : ((t121.length : Int) == 1) = false := beq_eq_false_iff_ne.mpr c12
                    have c12b1 : ((t121.length : Int) != 1) = true := bne_iff_ne.mpr c12
                    obtain rfl := Option.some.inj H
                    go_enter Try.func6, Try.ntmps6
                    go_wp2_with (first | ((with_reducible refine gate_dst (N := 6) rfl ?_); (try (refine gate_guard (by rfl) ?_; dsimp only)); refine Kd.N_lit k43 _ 43 ?hg (N' := 6) ?hd (xs := ([(⟨5, true, (⟨0, 0, ([] : List (S41))⟩ : S41)⟩ : S43)] : List (S43))) (inner := [.int .i64 5, .bool true, .int .i64 0, .int .i64 0, .slice none 0 0]) (ok := (fun _ => True)) (okp := (fun _ => True)) ?hr ?hp (fun _ hk => hk) ((show ∀ k_, w.heap.size ≤ k_ → (fun _ => True) k_ from fun k_ hk => trivial) _ (Nat.le_refl _)) (Below.refl _ _) (Nat.le_refl _) (by simp) ?_; (case hd => rfl); (case hg => rfl); (case hr => first | (go_simp; done) | (go_simp; rfl)); (case hp => exact (Reps.c5 (show Kd.FK k43 _ _ (⟨5, true, (⟨0, 0, ([] : List (S41))⟩ : S41)⟩ : S43) [.int .i64 5, .bool true, .int .i64 0, .int .i64 0, .slice none 0 0] from (k43_mkF _ _ (⟨5, true, (⟨0, 0, ([] : List (S41))⟩ : S41)⟩ : S43) (Nat.le_refl _) (Kd.F_nil _ _ _))) (Reps.none _ _))); intro v104 w32 ho33 hb hg_ hnew_; clear hg_ hnew_; (first | rw [← Ny103.out] at ho33 | (simp only [Int.reduceToNat] at ho33; rw [← Ny103.out] at ho33)); have n0_ := Aside0.mk (Kd.N_lower ho33 (below_size (by repeat (first | (with_reducible first | exact HB.out | apply below_alloc | apply pw_below_drewN | apply below_drew1) | exact HB.out)))); have n1_ := Aside0.mk (below_step (by repeat (first | (with_reducible first | exact HB.out | apply below_alloc | apply pw_below_drewN | apply below_drew1) | exact HB.out)) hb); clear HB; have HO105 := n0_; have HB := n1_; clear n0_ n1_; clear hb ho33; obtain ⟨Ao34, co34, eo34⟩ := Kd.N_slice HO105.out; subst eo34) | ((with_reducible refine gate_dst (N := 10) rfl ?_); (try (refine gate_guard (by rfl) ?_; dsimp only)); refine Kd.N_lit k43 _ 43 ?hg (N' := 10) ?hd (xs := ([(⟨5, false, (⟨0, 0, ([] : List (S41))⟩ : S41)⟩ : S43), (⟨1, true, (⟨0, 0, ([] : List (S41))⟩ : S41)⟩ : S43)] : List (S43))) (inner := [.int .i64 5, .bool false, .int .i64 0, .int .i64 0, .slice none 0 0, .int .i64 1, .bool true, .int .i64 0, .int .i64 0, .slice none 0 0]) (ok := (fun k_ => some k_ ≠ (.slice Ao34 y103.length co34 : Value).ownBlock)) (okp := (fun k_ => some k_ ≠ (.slice Ao34 y103.length co34 : Value).ownBlock)) ?hr ?hp (fun _ hk => hk) ((show ∀ k_, w32.heap.size ≤ k_ → (fun k_ => some k_ ≠ (.slice Ao34 y103.length co34 : Value).ownBlock) k_ from fun k_ hk => Kd.fresh' (Kd.N_lt (by (with_reducible repeat (first | apply Kd.N_alloc | apply Kd.N_drewN | apply Kd.N_drew)); exact HO105.out)) k_ hk) _ (Nat.le_refl _)) (Below.refl _ _) (Nat.le_refl _) (by simp) ?_; (case hd => rfl); (case hg => rfl); (case hr => first | (go_simp; done) | (go_simp; rfl)); (case hp => exact (Reps.c5 (show Kd.FK k43 _ _ (⟨5, false, (⟨0, 0, ([] : List (S41))⟩ : S41)⟩ : S43) [.int .i64 5, .bool false, .int .i64 0, .int .i64 0, .slice none 0 0] from (k43_mkF _ _ (⟨5, false, (⟨0, 0, ([] : List (S41))⟩ : S41)⟩ : S43) (Nat.le_refl _) (Kd.F_nil _ _ _))) (Reps.c5 (show Kd.FK k43 _ _ (⟨1, true, (⟨0, 0, ([] : List (S41))⟩ : S41)⟩ : S43) [.int .i64 1, .bool true, .int .i64 0, .int .i64 0, .slice none 0 0] from (k43_mkF _ _ (⟨1, true, (⟨0, 0, ([] : List (S41))⟩ : S41)⟩ : S43) (Nat.le_refl _) (Kd.F_nil _ _ _))) (Reps.none _ _)))); intro v107 w35 ho36 hb hg_ hnew_; clear hg_ hnew_; (first | rw [← Ny106.out] at ho36 | (simp only [Int.reduceToNat] at ho36; rw [← Ny106.out] at ho36)); have n0_ := Aside0.mk (Kd.N_elder' (by (with_reducible repeat (first | apply Kd.N_alloc | apply Kd.N_drewN | apply Kd.N_drew)); exact HO105.out) (Kd.N_base ho36) hb); have n1_ := Aside0.mk (Kd.N_lower ho36 (below_size (by repeat (first | (with_reducible first | exact HB.out | apply below_alloc | apply pw_below_drewN | apply below_drew1) | exact HB.out)))); have n2_ := Aside0.mk (below_step (by repeat (first | (with_reducible first | exact HB.out | apply below_alloc | apply pw_below_drewN | apply below_drew1) | exact HB.out)) hb); clear HO105; clear HB; have HO105 := n0_; have HO108 := n1_; have HB := n2_; clear n0_ n1_ n2_; clear hb ho36; obtain ⟨Ao37, co37, eo37⟩ := Kd.N_slice HO108.out; subst eo37) | ((with_reducible refine gate_dst (N := 14) rfl ?_); (try (refine gate_guard (by rfl) ?_; dsimp only)); refine Kd.N_lit k43 _ 43 ?hg (N' := 14) ?hd (xs := ([(⟨1, false, (⟨0, 0, ([] : List (S41))⟩ : S41)⟩ : S43), (⟨2, true, (⟨0, 0, ([] : List (S41))⟩ : S41)⟩ : S43)] : List (S43))) (inner := [.int .i64 1, .bool false, .int .i64 0, .int .i64 0, .slice none 0 0, .int .i64 2, .bool true, .int .i64 0, .int .i64 0, .slice none 0 0]) (ok := (fun k_ => some k_ ≠ (.slice Ao34 y103.length co34 : Value).ownBlock ∧ some k_ ≠ (.slice Ao37 y106.length co37 : Value).ownBlock)) (okp := (fun k_ => some k_ ≠ (.slice Ao34 y103.length co34 : Value).ownBlock ∧ some k_ ≠ (.slice Ao37 y106.length co37 : Value).ownBlock)) ?hr ?hp (fun _ hk => hk) ((show ∀ k_, w35.heap.size ≤ k_ → (fun k_ => some k_ ≠ (.slice Ao34 y103.length co34 : Value).ownBlock ∧ some k_ ≠ (.slice Ao37 y106.length co37 : Value).ownBlock) k_ from fun k_ hk => ⟨Kd.fresh' (Kd.N_lt (by (with_reducible repeat (first | apply Kd.N_alloc | apply Kd.N_drewN | apply Kd.N_drew)); exact HO105.out)) k_ hk, Kd.fresh' (Kd.N_lt (by (with_reducible repeat (first | apply Kd.N_alloc | apply Kd.N_drewN | apply Kd.N_drew)); exact HO108.out)) k_ hk⟩) _ (Nat.le_refl _)) (Below.refl _ _) (Nat.le_refl _) (by simp) ?_; (case hd => rfl); (case hg => rfl); (case hr => first | (go_simp; done) | (go_simp; rfl)); (case hp => exact (Reps.c5 (show Kd.FK k43 _ _ (⟨1, false, (⟨0, 0, ([] : List (S41))⟩ : S41)⟩ : S43) [.int .i64 1, .bool false, .int .i64 0, .int .i64 0, .slice none 0 0] from (k43_mkF _ _ (⟨1, false, (⟨0, 0, ([] : List (S41))⟩ : S41)⟩ : S43) (Nat.le_refl _) (Kd.F_nil _ _ _))) (Reps.c5 (show Kd.FK k43 _ _ (⟨2, true, (⟨0, 0, ([] : List (S41))⟩ : S41)⟩ : S43) [.int .i64 2, .bool true, .int .i64 0, .int .i64 0, .slice none 0 0] from (k43_mkF _ _ (⟨2, true, (⟨0, 0, ([] : List (S41))⟩ : S41)⟩ : S43) (Nat.le_refl _) (Kd.F_nil _ _ _))) (Reps.none _ _)))); intro v110 w38 ho39 hb hg_ hnew_; clear hg_ hnew_; (first | rw [← Ny109.out] at ho39 | (simp only [Int.reduceToNat] at ho39; rw [← Ny109.out] at ho39)); have n0_ := Aside0.mk (Kd.N_elder' (by (with_reducible repeat (first | apply Kd.N_alloc | apply Kd.N_drewN | apply Kd.N_drew)); exact HO105.out) (Kd.N_base ho39) hb); have n1_ := Aside0.mk (Kd.N_elder' (by (with_reducible repeat (first | apply Kd.N_alloc | apply Kd.N_drewN | apply Kd.N_drew)); exact HO108.out) (Kd.N_base ho39) hb); have n2_ := Aside0.mk (Kd.N_lower ho39 (below_size (by repeat (first | (with_reducible first | exact HB.out | apply below_alloc | apply pw_below_drewN | apply below_drew1) | exact HB.out)))); have n3_ := Aside0.mk (below_step (by repeat (first | (with_reducible first | exact HB.out | apply below_alloc | apply pw_below_drewN | apply below_drew1) | exact HB.out)) hb); clear HO105; clear HO108; clear HB; have HO105 := n0_; have HO108 := n1_; have HO111 := n2_; have HB := n3_; clear n0_ n1_ n2_ n3_; clear hb ho39; obtain ⟨Ao40, co40, eo40⟩ := Kd.N_slice HO111.out; subst eo40) | ((with_reducible refine gate_dst (N := 16) rfl ?_); (try (refine gate_guard (by rfl) ?_; dsimp only)); refine Kd.N_lit k38 _ 38 ?hg (N' := 16) ?hd (xs := ([(⟨2, y103⟩ : S38), (⟨4, y106⟩ : S38), (⟨7, y109⟩ : S38)] : List (S38))) (inner := [.int .i64 2, .slice Ao34 y103.length co34, .int .i64 4, .slice Ao37 y106.length co37, .int .i64 7, .slice Ao40 y109.length co40]) (ok := (fun _ => True)) (okp := (fun _ => True)) ?hr ?hp (fun _ hk => hk) ((show ∀ k_, w38.heap.size ≤ k_ → (fun _ => True) k_ from fun k_ hk => trivial) _ (Nat.le_refl _)) (Below.refl _ _) (Nat.le_refl _) (by simp) ?_; (case hd => rfl); (case hg => rfl); (case hr => first | (go_simp; done) | (go_simp; rfl)); (case hp => exact (Reps.c2 (show Kd.FK k38 _ _ (⟨2, y103⟩ : S38) [.int .i64 2, .slice Ao34 y103.length co34] from (k38_mkF _ _ (⟨2, y103⟩ : S38) (Kd.N_reads' (Kd.N_mono (ok' := (fun _ => True)) (HO105.out) (fun k_ hk => trivial))).2.1 (Kd.N_F (Kd.N_mono (ok' := (fun _ => True)) (HO105.out) (fun k_ hk => trivial))))) (Reps.c2 (show Kd.FK k38 _ _ (⟨4, y106⟩ : S38) [.int .i64 4, .slice Ao37 y106.length co37] from (k38_mkF _ _ (⟨4, y106⟩ : S38) (Kd.N_reads' (Kd.N_mono (ok' := (fun _ => True)) (HO108.out) (fun k_ hk => trivial))).2.1 (Kd.N_F (Kd.N_mono (ok' := (fun _ => True)) (HO108.out) (fun k_ hk => trivial))))) (Reps.c2 (show Kd.FK k38 _ _ (⟨7, y109⟩ : S38) [.int .i64 7, .slice Ao40 y109.length co40] from (k38_mkF _ _ (⟨7, y109⟩ : S38) (Kd.N_reads' (Kd.N_mono (ok' := (fun _ => True)) (HO111.out) (fun k_ hk => trivial))).2.1 (Kd.N_F (Kd.N_mono (ok' := (fun _ => True)) (HO111.out) (fun k_ hk => trivial))))) (Reps.none _ _))))); intro v113 w41 ho42 hb hg_ hnew_; clear hg_ hnew_; (first | rw [← Ny112.out] at ho42 | (simp only [Int.reduceToNat] at ho42; rw [← Ny112.out] at ho42)); have n0_ := Aside0.mk (Kd.N_lower ho42 (below_size (by repeat (first | (with_reducible first | exact HB.out | apply below_alloc | apply pw_below_drewN | apply below_drew1) | exact HB.out)))); have n1_ := Aside0.mk (below_step (by repeat (first | (with_reducible first | exact HB.out | apply below_alloc | apply pw_below_drewN | apply below_drew1) | exact HB.out)) hb); clear HB; clear HO105; clear HO108; clear HO111; have HO114 := n0_; have HB := n1_; clear n0_ n1_; clear hb ho42; obtain ⟨Ao43, co43, eo43⟩ := Kd.N_slice HO114.out; subst eo43) | ((with_reducible refine gate_callee (f := 10) rfl ?_); refine goesL_ (some 18) rfl rfl Try.func10 (by kernel_rfl) rfl #[.slice Ao43 y112.length co43] rfl (by (try simp only [List.map_toArray, List.map_cons, List.map_nil]); first | done | rfl | (simp only [List.length_drop, List.length_take]; rfl)) ?_; (with_reducible refine (post_Pairs.calls _ _ y112 t115 _ ?side1 ?side2 A1.out).mono ?_); (case side1 => repeat (first | exact (Kd.N_reads' HO114.out).2.2 | (with_reducible refine Kd.C_alloc ?_ _) | (with_reducible refine Kd.C_drewN ?_ _) | (with_reducible refine Kd.C_drew ?_))); (case side2 => exact (Kd.N_reads' HO114.out).2.1); rintro e w44 ⟨v116, rfl, ho0, hb⟩; refine ⟨_, rfl, ?_⟩; have n0_ := Aside0.mk (Kd.N_elder' (by (with_reducible repeat (first | apply Kd.N_alloc | apply Kd.N_drewN | apply Kd.N_drew)); exact HO114.out) (Kd.R_base ho0) hb); have n1_ := Aside0.mk (Kd.R_lower ho0 (below_size (by repeat (first | (with_reducible first | exact HB.out | apply below_alloc | apply pw_below_drewN | apply below_drew1) | exact HB.out)))); have n2_ := Aside0.mk (below_step (by repeat (first | (with_reducible first | exact HB.out | apply below_alloc | apply pw_below_drewN | apply below_drew1) | exact HB.out)) hb); clear HO114; clear HB; have HO114 := n0_; have HO117 := n1_; have HB := n2_; clear n0_ n1_ n2_; (try clear hb); (try clear hb2); (try clear hk); (try clear hi); (try clear ho0)) | ((with_reducible refine gate_callee (f := 12) rfl ?_); refine goesL_ (some 20) rfl rfl Try.func12 (by kernel_rfl) rfl #[.slice Ao43 y112.length co43] rfl (by (try simp only [List.map_toArray, List.map_cons, List.map_nil]); first | done | rfl | (simp only [List.length_drop, List.length_take]; rfl)) ?_; (with_reducible refine (post_Ins.calls _ _ y112 t118 _ ?side1 ?side2 A2.out).mono ?_); (case side1 => repeat (first | exact (Kd.N_reads' HO114.out).2.2 | (with_reducible refine Kd.C_alloc ?_ _) | (with_reducible refine Kd.C_drewN ?_ _) | (with_reducible refine Kd.C_drew ?_))); (case side2 => exact (Kd.N_reads' HO114.out).2.1); rintro e w45 ⟨v119, rfl, ho0, hb⟩; refine ⟨_, rfl, ?_⟩; have n0_ := Aside0.mk (Kd.N_elder' (by (with_reducible repeat (first | apply Kd.N_alloc | apply Kd.N_drewN | apply Kd.N_drew)); exact HO114.out) (Kd.R_base ho0) hb); have n1_ := Aside0.mk (Kd.R_elder' (by (with_reducible repeat (first | apply Kd.R_alloc | apply Kd.R_drewN | apply Kd.R_drew)); exact HO117.out) (Kd.R_base ho0) hb); have n2_ := Aside0.mk (Kd.R_lower (Kd.R_new' ho0 (Kd.R_lt (by (with_reducible repeat (first | apply Kd.R_alloc | apply Kd.R_drewN | apply Kd.R_drew)); exact HO117.out))) (below_size (by repeat (first | (with_reducible first | exact HB.out | apply below_alloc | apply pw_below_drewN | apply below_drew1) | exact HB.out)))); have n3_ := Aside0.mk (below_step (by repeat (first | (with_reducible first | exact HB.out | apply below_alloc | apply pw_below_drewN | apply below_drew1) | exact HB.out)) hb); clear HO114; clear HO117; clear HB; have HO114 := n0_; have HO117 := n1_; have HO120 := n2_; have HB := n3_; clear n0_ n1_ n2_ n3_; (try clear hb); (try clear hb2); (try clear hk); (try clear hi); (try clear ho0)) | ((with_reducible refine gate_callee (f := 14) rfl ?_); refine goesL_ (some 22) rfl rfl Try.func14 (by kernel_rfl) rfl #[.slice Ao43 y112.length co43] rfl (by (try simp only [List.map_toArray, List.map_cons, List.map_nil]); first | done | rfl | (simp only [List.length_drop, List.length_take]; rfl)) ?_; (with_reducible refine (post_Outs.calls _ _ y112 t121 _ ?side1 ?side2 A3.out).mono ?_); (case side1 => repeat (first | exact (Kd.N_reads' HO114.out).2.2 | (with_reducible refine Kd.C_alloc ?_ _) | (with_reducible refine Kd.C_drewN ?_ _) | (with_reducible refine Kd.C_drew ?_))); (case side2 => exact (Kd.N_reads' HO114.out).2.1); rintro e w46 ⟨v122, rfl, ho0, hb⟩; refine ⟨_, rfl, ?_⟩; have n0_ := Aside0.mk (Kd.N_elder' (by (with_reducible repeat (first | apply Kd.N_alloc | apply Kd.N_drewN | apply Kd.N_drew)); exact HO114.out) (Kd.R_base ho0) hb); have n1_ := Aside0.mk (Kd.R_elder' (by (with_reducible repeat (first | apply Kd.R_alloc | apply Kd.R_drewN | apply Kd.R_drew)); exact HO117.out) (Kd.R_base ho0) hb); have n2_ := Aside0.mk (Kd.R_elder' (by (with_reducible repeat (first | apply Kd.R_alloc | apply Kd.R_drewN | apply Kd.R_drew)); exact HO120.out) (Kd.R_base ho0) hb); have n3_ := Aside0.mk (Kd.R_lower (Kd.R_new' (Kd.R_new' ho0 (Kd.R_lt (by (with_reducible repeat (first | apply Kd.R_alloc | apply Kd.R_drewN | apply Kd.R_drew)); exact HO117.out))) (Kd.R_lt (by (with_reducible repeat (first | apply Kd.R_alloc | apply Kd.R_drewN | apply Kd.R_drew)); exact HO120.out))) (below_size (by repeat (first | (with_reducible first | exact HB.out | apply below_alloc | apply pw_below_drewN | apply below_drew1) | exact HB.out)))); have n4_ := Aside0.mk (below_step (by repeat (first | (with_reducible first | exact HB.out | apply below_alloc | apply pw_below_drewN | apply below_drew1) | exact HB.out)) hb); clear HO114; clear HO117; clear HO120; clear HB; have HO114 := n0_; have HO117 := n1_; have HO120 := n2_; have HO123 := n3_; have HB := n4_; clear n0_ n1_ n2_ n3_ n4_; (try clear hb); (try clear hb2); (try clear hk); (try clear hi); (try clear ho0); obtain ⟨Ao47, co47, eo47⟩ := Kd.R_slice HO117.out; subst eo47; have p124 : 0 ≤ (0 : Int) := (by omega); have q124 : 0 < (t115.length : Int) := of_decide_eq_true (by first | (with_reducible assumption) | assumption); obtain ⟨ad124, e124, hx124_0, hx124_1, hx124_2, hx124_3, hx124_4⟩ := at_T47 (Kd.R_reads' HO117.out).2.2 0 p124 q124; cases e124; have qi124 : (0 < t115.length) = True := eq_true (by omega); (try rw [show ((0 : Int)).toNat = 0 from rfl] at hx124_0); (try rw [show 0 * 5 = 0 from rfl] at hx124_0); (try rw [Addr.add_zero'] at hx124_0); (try rw [show ((0 : Int)).toNat = 0 from rfl] at hx124_1); (try rw [show 0 * 5 = 0 from rfl] at hx124_1); (try rw [Addr.add_zero'] at hx124_1); (try rw [show ((0 : Int)).toNat = 0 from rfl] at hx124_2); (try rw [show 0 * 5 = 0 from rfl] at hx124_2); (try rw [Addr.add_zero'] at hx124_2); (try rw [show ((0 : Int)).toNat = 0 from rfl] at hx124_3); (try rw [show 0 * 5 = 0 from rfl] at hx124_3); (try rw [Addr.add_zero'] at hx124_3); (try rw [show ((0 : Int)).toNat = 0 from rfl] at hx124_4); (try rw [show 0 * 5 = 0 from rfl] at hx124_4); (try rw [Addr.add_zero'] at hx124_4); replace p124 := eq_true p124; replace q124 := eq_true q124; have p125 : 0 ≤ (1 : Int) := (by omega); have q125 : 1 < (t115.length : Int) := of_decide_eq_true (by first | (with_reducible assumption) | assumption); obtain ⟨ad125, e125, hx125_0, hx125_1, hx125_2, hx125_3, hx125_4⟩ := at_T47 (Kd.R_reads' HO117.out).2.2 1 p125 q125; obtain rfl : ad124 = ad125 := (by injection e125); (try simp only [show (1 : Int).toNat = 1 from rfl, Nat.reduceMul, Nat.reduceEqDiff, Go.Addr.add, ↓reduceIte] at hx125_0); (try simp only [show (1 : Int).toNat = 1 from rfl, Nat.reduceMul, Nat.reduceEqDiff, Go.Addr.add, ↓reduceIte] at hx125_1); (try simp only [show (1 : Int).toNat = 1 from rfl, Nat.reduceMul, Nat.reduceEqDiff, Go.Addr.add, ↓reduceIte] at hx125_2); (try simp only [show (1 : Int).toNat = 1 from rfl, Nat.reduceMul, Nat.reduceEqDiff, Go.Addr.add, ↓reduceIte] at hx125_3); (try simp only [show (1 : Int).toNat = 1 from rfl, Nat.reduceMul, Nat.reduceEqDiff, Go.Addr.add, ↓reduceIte] at hx125_4); have qi125 : (1 < t115.length) = True := eq_true (by omega); (try rw [show ((1 : Int)).toNat = 1 from rfl] at hx125_0); (try rw [show 1 * 5 = 5 from rfl] at hx125_0); (try rw [show ((1 : Int)).toNat = 1 from rfl] at hx125_1); (try rw [show 1 * 5 = 5 from rfl] at hx125_1); (try rw [show ((1 : Int)).toNat = 1 from rfl] at hx125_2); (try rw [show 1 * 5 = 5 from rfl] at hx125_2); (try rw [show ((1 : Int)).toNat = 1 from rfl] at hx125_3); (try rw [show 1 * 5 = 5 from rfl] at hx125_3); (try rw [show ((1 : Int)).toNat = 1 from rfl] at hx125_4); (try rw [show 1 * 5 = 5 from rfl] at hx125_4); replace p125 := eq_true p125; replace q125 := eq_true q125; obtain ⟨Ao48, co48, eo48⟩ := Kd.R_slice HO120.out; subst eo48; have p126 : 0 ≤ (0 : Int) := (by omega); have q126 : 0 < (t118.length : Int) := of_decide_eq_true (by first | (with_reducible assumption) | assumption); obtain ⟨ad126, e126, hx126_0, hx126_1, hx126_2, hx126_3, hx126_4⟩ := at_T47 (Kd.R_reads' HO120.out).2.2 0 p126 q126; cases e126; have qi126 : (0 < t118.length) = True := eq_true (by omega); (try rw [show ((0 : Int)).toNat = 0 from rfl] at hx126_0); (try rw [show 0 * 5 = 0 from rfl] at hx126_0); (try rw [Addr.add_zero'] at hx126_0); (try rw [show ((0 : Int)).toNat = 0 from rfl] at hx126_1); (try rw [show 0 * 5 = 0 from rfl] at hx126_1); (try rw [Addr.add_zero'] at hx126_1); (try rw [show ((0 : Int)).toNat = 0 from rfl] at hx126_2); (try rw [show 0 * 5 = 0 from rfl] at hx126_2); (try rw [Addr.add_zero'] at hx126_2); (try rw [show ((0 : Int)).toNat = 0 from rfl] at hx126_3); (try rw [show 0 * 5 = 0 from rfl] at hx126_3); (try rw [Addr.add_zero'] at hx126_3); (try rw [show ((0 : Int)).toNat = 0 from rfl] at hx126_4); (try rw [show 0 * 5 = 0 from rfl] at hx126_4); (try rw [Addr.add_zero'] at hx126_4); replace p126 := eq_true p126; replace q126 := eq_true q126; obtain ⟨Ao49, co49, eo49⟩ := Kd.R_slice HO123.out; subst eo49))
                    go_ret
                    exact ⟨by first | rfl | (simp [errW_none, errW_some] <;> rfl) | (simp [*, errW_none, errW_some] <;> rfl), by repeat (first | (with_reducible first | exact HB.out | apply below_alloc | apply pw_below_drewN | apply below_drew1) | exact HB.out)⟩
                · rw [if_neg c11] at H
                  have c11b0 : (((rd_T47 t118 0).f0) == (-1) && (((rd_T47 t118 0).f1) == 0 && (((rd_T47 t118 0).f2) == 7 && (((rd_T47 t118 0).f3) == 0 && (((rd_T47 t118 0).f4) == 1))))) = false := by simpa using c11
                  (try (have c11b1 : decide (((rd_T47 t118 0).f0) = (-1) && (((rd_T47 t118 0).f1) == 0 && (((rd_T47 t118 0).f2) == 7 && (((rd_T47 t118 0).f3) == 0 && (((rd_T47 t118 0).f4) == 1))))) = false := by simpa using c11))
                  (try (have c11b2 : (((rd_T47 t118 0).f0) == (-1) && (((rd_T47 t118 0).f1) == 0 && (((rd_T47 t118 0).f2) == 7 && (((rd_T47 t118 0).f3) == 0 && (((rd_T47 t118 0).f4) == 1))))) = false := by simpa using c11))
                  (try (have c11b3 : ¬ (((rd_T47 t118 0).f0) = (-1) && (((rd_T47 t118 0).f1) == 0 && (((rd_T47 t118 0).f2) == 7 && (((rd_T47 t118 0).f3) == 0 && (((rd_T47 t118 0).f4) == 1))))) := by simpa using c11))
                  clear c11
                  obtain rfl := Option.some.inj H
                  go_enter Try.func6, Try.ntmps6
                  go_wp2_with (first | ((with_reducible refine gate_dst (N := 6) rfl ?_); (try (refine gate_guard (by rfl) ?_; dsimp only)); refine Kd.N_lit k43 _ 43 ?hg (N' := 6) ?hd (xs := ([(⟨5, true, (⟨0, 0, ([] : List (S41))⟩ : S41)⟩ : S43)] : List (S43))) (inner := [.int .i64 5, .bool true, .int .i64 0, .int .i64 0, .slice none 0 0]) (ok := (fun _ => True)) (okp := (fun _ => True)) ?hr ?hp (fun _ hk => hk) ((show ∀ k_, w.heap.size ≤ k_ → (fun _ => True) k_ from fun k_ hk => trivial) _ (Nat.le_refl _)) (Below.refl _ _) (Nat.le_refl _) (by simp) ?_; (case hd => rfl); (case hg => rfl); (case hr => first | (go_simp; done) | (go_simp; rfl)); (case hp => exact (Reps.c5 (show Kd.FK k43 _ _ (⟨5, true, (⟨0, 0, ([] : List (S41))⟩ : S41)⟩ : S43) [.int .i64 5, .bool true, .int .i64 0, .int .i64 0, .slice none 0 0] from (k43_mkF _ _ (⟨5, true, (⟨0, 0, ([] : List (S41))⟩ : S41)⟩ : S43) (Nat.le_refl _) (Kd.F_nil _ _ _))) (Reps.none _ _))); intro v104 w50 ho51 hb hg_ hnew_; clear hg_ hnew_; (first | rw [← Ny103.out] at ho51 | (simp only [Int.reduceToNat] at ho51; rw [← Ny103.out] at ho51)); have n0_ := Aside0.mk (Kd.N_lower ho51 (below_size (by repeat (first | (with_reducible first | exact HB.out | apply below_alloc | apply pw_below_drewN | apply below_drew1) | exact HB.out)))); have n1_ := Aside0.mk (below_step (by repeat (first | (with_reducible first | exact HB.out | apply below_alloc | apply pw_below_drewN | apply below_drew1) | exact HB.out)) hb); clear HB; have HO105 := n0_; have HB := n1_; clear n0_ n1_; clear hb ho51; obtain ⟨Ao52, co52, eo52⟩ := Kd.N_slice HO105.out; subst eo52) | ((with_reducible refine gate_dst (N := 10) rfl ?_); (try (refine gate_guard (by rfl) ?_; dsimp only)); refine Kd.N_lit k43 _ 43 ?hg (N' := 10) ?hd (xs := ([(⟨5, false, (⟨0, 0, ([] : List (S41))⟩ : S41)⟩ : S43), (⟨1, true, (⟨0, 0, ([] : List (S41))⟩ : S41)⟩ : S43)] : List (S43))) (inner := [.int .i64 5, .bool false, .int .i64 0, .int .i64 0, .slice none 0 0, .int .i64 1, .bool true, .int .i64 0, .int .i64 0, .slice none 0 0]) (ok := (fun k_ => some k_ ≠ (.slice Ao52 y103.length co52 : Value).ownBlock)) (okp := (fun k_ => some k_ ≠ (.slice Ao52 y103.length co52 : Value).ownBlock)) ?hr ?hp (fun _ hk => hk) ((show ∀ k_, w50.heap.size ≤ k_ → (fun k_ => some k_ ≠ (.slice Ao52 y103.length co52 : Value).ownBlock) k_ from fun k_ hk => Kd.fresh' (Kd.N_lt (by (with_reducible repeat (first | apply Kd.N_alloc | apply Kd.N_drewN | apply Kd.N_drew)); exact HO105.out)) k_ hk) _ (Nat.le_refl _)) (Below.refl _ _) (Nat.le_refl _) (by simp) ?_; (case hd => rfl); (case hg => rfl); (case hr => first | (go_simp; done) | (go_simp; rfl)); (case hp => exact (Reps.c5 (show Kd.FK k43 _ _ (⟨5, false, (⟨0, 0, ([] : List (S41))⟩ : S41)⟩ : S43) [.int .i64 5, .bool false, .int .i64 0, .int .i64 0, .slice none 0 0] from (k43_mkF _ _ (⟨5, false, (⟨0, 0, ([] : List (S41))⟩ : S41)⟩ : S43) (Nat.le_refl _) (Kd.F_nil _ _ _))) (Reps.c5 (show Kd.FK k43 _ _ (⟨1, true, (⟨0, 0, ([] : List (S41))⟩ : S41)⟩ : S43) [.int .i64 1, .bool true, .int .i64 0, .int .i64 0, .slice none 0 0] from (k43_mkF _ _ (⟨1, true, (⟨0, 0, ([] : List (S41))⟩ : S41)⟩ : S43) (Nat.le_refl _) (Kd.F_nil _ _ _))) (Reps.none _ _)))); intro v107 w53 ho54 hb hg_ hnew_; clear hg_ hnew_; (first | rw [← Ny106.out] at ho54 | (simp only [Int.reduceToNat] at ho54; rw [← Ny106.out] at ho54)); have n0_ := Aside0.mk (Kd.N_elder' (by (with_reducible repeat (first | apply Kd.N_alloc | apply Kd.N_drewN | apply Kd.N_drew)); exact HO105.out) (Kd.N_base ho54) hb); have n1_ := Aside0.mk (Kd.N_lower ho54 (below_size (by repeat (first | (with_reducible first | exact HB.out | apply below_alloc | apply pw_below_drewN | apply below_drew1) | exact HB.out)))); have n2_ := Aside0.mk (below_step (by repeat (first | (with_reducible first | exact HB.out | apply below_alloc | apply pw_below_drewN | apply below_drew1) | exact HB.out)) hb); clear HO105; clear HB; have HO105 := n0_; have HO108 := n1_; have HB := n2_; clear n0_ n1_ n2_; clear hb ho54; obtain ⟨Ao55, co55, eo55⟩ := Kd.N_slice HO108.out; subst eo55) | ((with_reducible refine gate_dst (N := 14) rfl ?_); (try (refine gate_guard (by rfl) ?_; dsimp only)); refine Kd.N_lit k43 _ 43 ?hg (N' := 14) ?hd (xs := ([(⟨1, false, (⟨0, 0, ([] : List (S41))⟩ : S41)⟩ : S43), (⟨2, true, (⟨0, 0, ([] : List (S41))⟩ : S41)⟩ : S43)] : List (S43))) (inner := [.int .i64 1, .bool false, .int .i64 0, .int .i64 0, .slice none 0 0, .int .i64 2, .bool true, .int .i64 0, .int .i64 0, .slice none 0 0]) (ok := (fun k_ => some k_ ≠ (.slice Ao52 y103.length co52 : Value).ownBlock ∧ some k_ ≠ (.slice Ao55 y106.length co55 : Value).ownBlock)) (okp := (fun k_ => some k_ ≠ (.slice Ao52 y103.length co52 : Value).ownBlock ∧ some k_ ≠ (.slice Ao55 y106.length co55 : Value).ownBlock)) ?hr ?hp (fun _ hk => hk) ((show ∀ k_, w53.heap.size ≤ k_ → (fun k_ => some k_ ≠ (.slice Ao52 y103.length co52 : Value).ownBlock ∧ some k_ ≠ (.slice Ao55 y106.length co55 : Value).ownBlock) k_ from fun k_ hk => ⟨Kd.fresh' (Kd.N_lt (by (with_reducible repeat (first | apply Kd.N_alloc | apply Kd.N_drewN | apply Kd.N_drew)); exact HO105.out)) k_ hk, Kd.fresh' (Kd.N_lt (by (with_reducible repeat (first | apply Kd.N_alloc | apply Kd.N_drewN | apply Kd.N_drew)); exact HO108.out)) k_ hk⟩) _ (Nat.le_refl _)) (Below.refl _ _) (Nat.le_refl _) (by simp) ?_; (case hd => rfl); (case hg => rfl); (case hr => first | (go_simp; done) | (go_simp; rfl)); (case hp => exact (Reps.c5 (show Kd.FK k43 _ _ (⟨1, false, (⟨0, 0, ([] : List (S41))⟩ : S41)⟩ : S43) [.int .i64 1, .bool false, .int .i64 0, .int .i64 0, .slice none 0 0] from (k43_mkF _ _ (⟨1, false, (⟨0, 0, ([] : List (S41))⟩ : S41)⟩ : S43) (Nat.le_refl _) (Kd.F_nil _ _ _))) (Reps.c5 (show Kd.FK k43 _ _ (⟨2, true, (⟨0, 0, ([] : List (S41))⟩ : S41)⟩ : S43) [.int .i64 2, .bool true, .int .i64 0, .int .i64 0, .slice none 0 0] from (k43_mkF _ _ (⟨2, true, (⟨0, 0, ([] : List (S41))⟩ : S41)⟩ : S43) (Nat.le_refl _) (Kd.F_nil _ _ _))) (Reps.none _ _)))); intro v110 w56 ho57 hb hg_ hnew_; clear hg_ hnew_; (first | rw [← Ny109.out] at ho57 | (simp only [Int.reduceToNat] at ho57; rw [← Ny109.out] at ho57)); have n0_ := Aside0.mk (Kd.N_elder' (by (with_reducible repeat (first | apply Kd.N_alloc | apply Kd.N_drewN | apply Kd.N_drew)); exact HO105.out) (Kd.N_base ho57) hb); have n1_ := Aside0.mk (Kd.N_elder' (by (with_reducible repeat (first | apply Kd.N_alloc | apply Kd.N_drewN | apply Kd.N_drew)); exact HO108.out) (Kd.N_base ho57) hb); have n2_ := Aside0.mk (Kd.N_lower ho57 (below_size (by repeat (first | (with_reducible first | exact HB.out | apply below_alloc | apply pw_below_drewN | apply below_drew1) | exact HB.out)))); have n3_ := Aside0.mk (below_step (by repeat (first | (with_reducible first | exact HB.out | apply below_alloc | apply pw_below_drewN | apply below_drew1) | exact HB.out)) hb); clear HO105; clear HO108; clear HB; have HO105 := n0_; have HO108 := n1_; have HO111 := n2_; have HB := n3_; clear n0_ n1_ n2_ n3_; clear hb ho57; obtain ⟨Ao58, co58, eo58⟩ := Kd.N_slice HO111.out; subst eo58) | ((with_reducible refine gate_dst (N := 16) rfl ?_); (try (refine gate_guard (by rfl) ?_; dsimp only)); refine Kd.N_lit k38 _ 38 ?hg (N' := 16) ?hd (xs := ([(⟨2, y103⟩ : S38), (⟨4, y106⟩ : S38), (⟨7, y109⟩ : S38)] : List (S38))) (inner := [.int .i64 2, .slice Ao52 y103.length co52, .int .i64 4, .slice Ao55 y106.length co55, .int .i64 7, .slice Ao58 y109.length co58]) (ok := (fun _ => True)) (okp := (fun _ => True)) ?hr ?hp (fun _ hk => hk) ((show ∀ k_, w56.heap.size ≤ k_ → (fun _ => True) k_ from fun k_ hk => trivial) _ (Nat.le_refl _)) (Below.refl _ _) (Nat.le_refl _) (by simp) ?_; (case hd => rfl); (case hg => rfl); (case hr => first | (go_simp; done) | (go_simp; rfl)); (case hp => exact (Reps.c2 (show Kd.FK k38 _ _ (⟨2, y103⟩ : S38) [.int .i64 2, .slice Ao52 y103.length co52] from (k38_mkF _ _ (⟨2, y103⟩ : S38) (Kd.N_reads' (Kd.N_mono (ok' := (fun _ => True)) (HO105.out) (fun k_ hk => trivial))).2.1 (Kd.N_F (Kd.N_mono (ok' := (fun _ => True)) (HO105.out) (fun k_ hk => trivial))))) (Reps.c2 (show Kd.FK k38 _ _ (⟨4, y106⟩ : S38) [.int .i64 4, .slice Ao55 y106.length co55] from (k38_mkF _ _ (⟨4, y106⟩ : S38) (Kd.N_reads' (Kd.N_mono (ok' := (fun _ => True)) (HO108.out) (fun k_ hk => trivial))).2.1 (Kd.N_F (Kd.N_mono (ok' := (fun _ => True)) (HO108.out) (fun k_ hk => trivial))))) (Reps.c2 (show Kd.FK k38 _ _ (⟨7, y109⟩ : S38) [.int .i64 7, .slice Ao58 y109.length co58] from (k38_mkF _ _ (⟨7, y109⟩ : S38) (Kd.N_reads' (Kd.N_mono (ok' := (fun _ => True)) (HO111.out) (fun k_ hk => trivial))).2.1 (Kd.N_F (Kd.N_mono (ok' := (fun _ => True)) (HO111.out) (fun k_ hk => trivial))))) (Reps.none _ _))))); intro v113 w59 ho60 hb hg_ hnew_; clear hg_ hnew_; (first | rw [← Ny112.out] at ho60 | (simp only [Int.reduceToNat] at ho60; rw [← Ny112.out] at ho60)); have n0_ := Aside0.mk (Kd.N_lower ho60 (below_size (by repeat (first | (with_reducible first | exact HB.out | apply below_alloc | apply pw_below_drewN | apply below_drew1) | exact HB.out)))); have n1_ := Aside0.mk (below_step (by repeat (first | (with_reducible first | exact HB.out | apply below_alloc | apply pw_below_drewN | apply below_drew1) | exact HB.out)) hb); clear HB; clear HO105; clear HO108; clear HO111; have HO114 := n0_; have HB := n1_; clear n0_ n1_; clear hb ho60; obtain ⟨Ao61, co61, eo61⟩ := Kd.N_slice HO114.out; subst eo61) | ((with_reducible refine gate_callee (f := 10) rfl ?_); refine goesL_ (some 18) rfl rfl Try.func10 (by kernel_rfl) rfl #[.slice Ao61 y112.length co61] rfl (by (try simp only [List.map_toArray, List.map_cons, List.map_nil]); first | done | rfl | (simp only [List.length_drop, List.length_take]; rfl)) ?_; (with_reducible refine (post_Pairs.calls _ _ y112 t115 _ ?side1 ?side2 A1.out).mono ?_); (case side1 => repeat (first | exact (Kd.N_reads' HO114.out).2.2 | (with_reducible refine Kd.C_alloc ?_ _) | (with_reducible refine Kd.C_drewN ?_ _) | (with_reducible refine Kd.C_drew ?_))); (case side2 => exact (Kd.N_reads' HO114.out).2.1); rintro e w62 ⟨v116, rfl, ho0, hb⟩; refine ⟨_, rfl, ?_⟩; have n0_ := Aside0.mk (Kd.N_elder' (by (with_reducible repeat (first | apply Kd.N_alloc | apply Kd.N_drewN | apply Kd.N_drew)); exact HO114.out) (Kd.R_base ho0) hb); have n1_ := Aside0.mk (Kd.R_lower ho0 (below_size (by repeat (first | (with_reducible first | exact HB.out | apply below_alloc | apply pw_below_drewN | apply below_drew1) | exact HB.out)))); have n2_ := Aside0.mk (below_step (by repeat (first | (with_reducible first | exact HB.out | apply below_alloc | apply pw_below_drewN | apply below_drew1) | exact HB.out)) hb); clear HO114; clear HB; have HO114 := n0_; have HO117 := n1_; have HB := n2_; clear n0_ n1_ n2_; (try clear hb); (try clear hb2); (try clear hk); (try clear hi); (try clear ho0)) | ((with_reducible refine gate_callee (f := 12) rfl ?_); refine goesL_ (some 20) rfl rfl Try.func12 (by kernel_rfl) rfl #[.slice Ao61 y112.length co61] rfl (by (try simp only [List.map_toArray, List.map_cons, List.map_nil]); first | done | rfl | (simp only [List.length_drop, List.length_take]; rfl)) ?_; (with_reducible refine (post_Ins.calls _ _ y112 t118 _ ?side1 ?side2 A2.out).mono ?_); (case side1 => repeat (first | exact (Kd.N_reads' HO114.out).2.2 | (with_reducible refine Kd.C_alloc ?_ _) | (with_reducible refine Kd.C_drewN ?_ _) | (with_reducible refine Kd.C_drew ?_))); (case side2 => exact (Kd.N_reads' HO114.out).2.1); rintro e w63 ⟨v119, rfl, ho0, hb⟩; refine ⟨_, rfl, ?_⟩; have n0_ := Aside0.mk (Kd.N_elder' (by (with_reducible repeat (first | apply Kd.N_alloc | apply Kd.N_drewN | apply Kd.N_drew)); exact HO114.out) (Kd.R_base ho0) hb); have n1_ := Aside0.mk (Kd.R_elder' (by (with_reducible repeat (first | apply Kd.R_alloc | apply Kd.R_drewN | apply Kd.R_drew)); exact HO117.out) (Kd.R_base ho0) hb); have n2_ := Aside0.mk (Kd.R_lower (Kd.R_new' ho0 (Kd.R_lt (by (with_reducible repeat (first | apply Kd.R_alloc | apply Kd.R_drewN | apply Kd.R_drew)); exact HO117.out))) (below_size (by repeat (first | (with_reducible first | exact HB.out | apply below_alloc | apply pw_below_drewN | apply below_drew1) | exact HB.out)))); have n3_ := Aside0.mk (below_step (by repeat (first | (with_reducible first | exact HB.out | apply below_alloc | apply pw_below_drewN | apply below_drew1) | exact HB.out)) hb); clear HO114; clear HO117; clear HB; have HO114 := n0_; have HO117 := n1_; have HO120 := n2_; have HB := n3_; clear n0_ n1_ n2_ n3_; (try clear hb); (try clear hb2); (try clear hk); (try clear hi); (try clear ho0)) | ((with_reducible refine gate_callee (f := 14) rfl ?_); refine goesL_ (some 22) rfl rfl Try.func14 (by kernel_rfl) rfl #[.slice Ao61 y112.length co61] rfl (by (try simp only [List.map_toArray, List.map_cons, List.map_nil]); first | done | rfl | (simp only [List.length_drop, List.length_take]; rfl)) ?_; (with_reducible refine (post_Outs.calls _ _ y112 t121 _ ?side1 ?side2 A3.out).mono ?_); (case side1 => repeat (first | exact (Kd.N_reads' HO114.out).2.2 | (with_reducible refine Kd.C_alloc ?_ _) | (with_reducible refine Kd.C_drewN ?_ _) | (with_reducible refine Kd.C_drew ?_))); (case side2 => exact (Kd.N_reads' HO114.out).2.1); rintro e w64 ⟨v122, rfl, ho0, hb⟩; refine ⟨_, rfl, ?_⟩; have n0_ := Aside0.mk (Kd.N_elder' (by (with_reducible repeat (first | apply Kd.N_alloc | apply Kd.N_drewN | apply Kd.N_drew)); exact HO114.out) (Kd.R_base ho0) hb); have n1_ := Aside0.mk (Kd.R_elder' (by (with_reducible repeat (first | apply Kd.R_alloc | apply Kd.R_drewN | apply Kd.R_drew)); exact HO117.out) (Kd.R_base ho0) hb); have n2_ := Aside0.mk (Kd.R_elder' (by (with_reducible repeat (first | apply Kd.R_alloc | apply Kd.R_drewN | apply Kd.R_drew)); exact HO120.out) (Kd.R_base ho0) hb); have n3_ := Aside0.mk (Kd.R_lower (Kd.R_new' (Kd.R_new' ho0 (Kd.R_lt (by (with_reducible repeat (first | apply Kd.R_alloc | apply Kd.R_drewN | apply Kd.R_drew)); exact HO117.out))) (Kd.R_lt (by (with_reducible repeat (first | apply Kd.R_alloc | apply Kd.R_drewN | apply Kd.R_drew)); exact HO120.out))) (below_size (by repeat (first | (with_reducible first | exact HB.out | apply below_alloc | apply pw_below_drewN | apply below_drew1) | exact HB.out)))); have n4_ := Aside0.mk (below_step (by repeat (first | (with_reducible first | exact HB.out | apply below_alloc | apply pw_below_drewN | apply below_drew1) | exact HB.out)) hb); clear HO114; clear HO117; clear HO120; clear HB; have HO114 := n0_; have HO117 := n1_; have HO120 := n2_; have HO123 := n3_; have HB := n4_; clear n0_ n1_ n2_ n3_ n4_; (try clear hb); (try clear hb2); (try clear hk); (try clear hi); (try clear ho0); obtain ⟨Ao65, co65, eo65⟩ := Kd.R_slice HO117.out; subst eo65; have p124 : 0 ≤ (0 : Int) := (by omega); have q124 : 0 < (t115.length : Int) := of_decide_eq_true (by first | (with_reducible assumption) | assumption); obtain ⟨ad124, e124, hx124_0, hx124_1, hx124_2, hx124_3, hx124_4⟩ := at_T47 (Kd.R_reads' HO117.out).2.2 0 p124 q124; cases e124; have qi124 : (0 < t115.length) = True := eq_true (by omega); (try rw [show ((0 : Int)).toNat = 0 from rfl] at hx124_0); (try rw [show 0 * 5 = 0 from rfl] at hx124_0); (try rw [Addr.add_zero'] at hx124_0); (try rw [show ((0 : Int)).toNat = 0 from rfl] at hx124_1); (try rw [show 0 * 5 = 0 from rfl] at hx124_1); (try rw [Addr.add_zero'] at hx124_1); (try rw [show ((0 : Int)).toNat = 0 from rfl] at hx124_2); (try rw [show 0 * 5 = 0 from rfl] at hx124_2); (try rw [Addr.add_zero'] at hx124_2); (try rw [show ((0 : Int)).toNat = 0 from rfl] at hx124_3); (try rw [show 0 * 5 = 0 from rfl] at hx124_3); (try rw [Addr.add_zero'] at hx124_3); (try rw [show ((0 : Int)).toNat = 0 from rfl] at hx124_4); (try rw [show 0 * 5 = 0 from rfl] at hx124_4); (try rw [Addr.add_zero'] at hx124_4); replace p124 := eq_true p124; replace q124 := eq_true q124; have p125 : 0 ≤ (1 : Int) := (by omega); have q125 : 1 < (t115.length : Int) := of_decide_eq_true (by first | (with_reducible assumption) | assumption); obtain ⟨ad125, e125, hx125_0, hx125_1, hx125_2, hx125_3, hx125_4⟩ := at_T47 (Kd.R_reads' HO117.out).2.2 1 p125 q125; obtain rfl : ad124 = ad125 := (by injection e125); (try simp only [show (1 : Int).toNat = 1 from rfl, Nat.reduceMul, Nat.reduceEqDiff, Go.Addr.add, ↓reduceIte] at hx125_0); (try simp only [show (1 : Int).toNat = 1 from rfl, Nat.reduceMul, Nat.reduceEqDiff, Go.Addr.add, ↓reduceIte] at hx125_1); (try simp only [show (1 : Int).toNat = 1 from rfl, Nat.reduceMul, Nat.reduceEqDiff, Go.Addr.add, ↓reduceIte] at hx125_2); (try simp only [show (1 : Int).toNat = 1 from rfl, Nat.reduceMul, Nat.reduceEqDiff, Go.Addr.add, ↓reduceIte] at hx125_3); (try simp only [show (1 : Int).toNat = 1 from rfl, Nat.reduceMul, Nat.reduceEqDiff, Go.Addr.add, ↓reduceIte] at hx125_4); have qi125 : (1 < t115.length) = True := eq_true (by omega); (try rw [show ((1 : Int)).toNat = 1 from rfl] at hx125_0); (try rw [show 1 * 5 = 5 from rfl] at hx125_0); (try rw [show ((1 : Int)).toNat = 1 from rfl] at hx125_1); (try rw [show 1 * 5 = 5 from rfl] at hx125_1); (try rw [show ((1 : Int)).toNat = 1 from rfl] at hx125_2); (try rw [show 1 * 5 = 5 from rfl] at hx125_2); (try rw [show ((1 : Int)).toNat = 1 from rfl] at hx125_3); (try rw [show 1 * 5 = 5 from rfl] at hx125_3); (try rw [show ((1 : Int)).toNat = 1 from rfl] at hx125_4); (try rw [show 1 * 5 = 5 from rfl] at hx125_4); replace p125 := eq_true p125; replace q125 := eq_true q125; obtain ⟨Ao66, co66, eo66⟩ := Kd.R_slice HO120.out; subst eo66; have p126 : 0 ≤ (0 : Int) := (by omega); have q126 : 0 < (t118.length : Int) := of_decide_eq_true (by first | (with_reducible assumption) | assumption); obtain ⟨ad126, e126, hx126_0, hx126_1, hx126_2, hx126_3, hx126_4⟩ := at_T47 (Kd.R_reads' HO120.out).2.2 0 p126 q126; cases e126; have qi126 : (0 < t118.length) = True := eq_true (by omega); (try rw [show ((0 : Int)).toNat = 0 from rfl] at hx126_0); (try rw [show 0 * 5 = 0 from rfl] at hx126_0); (try rw [Addr.add_zero'] at hx126_0); (try rw [show ((0 : Int)).toNat = 0 from rfl] at hx126_1); (try rw [show 0 * 5 = 0 from rfl] at hx126_1); (try rw [Addr.add_zero'] at hx126_1); (try rw [show ((0 : Int)).toNat = 0 from rfl] at hx126_2); (try rw [show 0 * 5 = 0 from rfl] at hx126_2); (try rw [Addr.add_zero'] at hx126_2); (try rw [show ((0 : Int)).toNat = 0 from rfl] at hx126_3); (try rw [show 0 * 5 = 0 from rfl] at hx126_3); (try rw [Addr.add_zero'] at hx126_3); (try rw [show ((0 : Int)).toNat = 0 from rfl] at hx126_4); (try rw [show 0 * 5 = 0 from rfl] at hx126_4); (try rw [Addr.add_zero'] at hx126_4); replace p126 := eq_true p126; replace q126 := eq_true q126))
                  go_ret
                  exact ⟨by first | rfl | (simp [errW_none, errW_some] <;> rfl) | (simp [*, errW_none, errW_some] <;> rfl), by repeat (first | (with_reducible first | exact HB.out | apply below_alloc | apply pw_below_drewN | apply below_drew1) | exact HB.out)⟩
              · rw [if_neg c10] at H
                exact absurd H (by simp)
            · rw [if_neg c9] at H
              have c9b0 : ((t118.length : Int) == 1) = false := beq_eq_false_iff_ne.mpr c9
              have c9b1 : ((t118.length : Int) != 1) = true := bne_iff_ne.mpr c9
              obtain rfl := Option.some.inj H
              go_enter Try.func6, Try.ntmps6
              go_wp2_with (first | ((with_reducible refine gate_dst (N := 6) rfl ?_); (try (refine gate_guard (by rfl) ?_; dsimp only)); refine Kd.N_lit k43 _ 43 ?hg (N' := 6) ?hd (xs := ([(⟨5, true, (⟨0, 0, ([] : List (S41))⟩ : S41)⟩ : S43)] : List (S43))) (inner := [.int .i64 5, .bool true, .int .i64 0, .int .i64 0, .slice none 0 0]) (ok := (fun _ => True)) (okp := (fun _ => True)) ?hr ?hp (fun _ hk => hk) ((show ∀ k_, w.heap.size ≤ k_ → (fun _ => True) k_ from fun k_ hk => trivial) _ (Nat.le_refl _)) (Below.refl _ _) (Nat.le_refl _) (by simp) ?_; (case hd => rfl); (case hg => rfl); (case hr => first | (go_simp; done) | (go_simp; rfl)); (case hp => exact (Reps.c5 (show Kd.FK k43 _ _ (⟨5, true, (⟨0, 0, ([] : List (S41))⟩ : S41)⟩ : S43) [.int .i64 5, .bool true, .int .i64 0, .int .i64 0, .slice none 0 0] from (k43_mkF _ _ (⟨5, true, (⟨0, 0, ([] : List (S41))⟩ : S41)⟩ : S43) (Nat.le_refl _) (Kd.F_nil _ _ _))) (Reps.none _ _))); intro v104 w67 ho68 hb hg_ hnew_; clear hg_ hnew_; (first | rw [← Ny103.out] at ho68 | (simp only [Int.reduceToNat] at ho68; rw [← Ny103.out] at ho68)); have n0_ := Aside0.mk (Kd.N_lower ho68 (below_size (by repeat (first | (with_reducible first | exact HB.out | apply below_alloc | apply pw_below_drewN | apply below_drew1) | exact HB.out)))); have n1_ := Aside0.mk (below_step (by repeat (first | (with_reducible first | exact HB.out | apply below_alloc | apply pw_below_drewN | apply below_drew1) | exact HB.out)) hb); clear HB; have HO105 := n0_; have HB := n1_; clear n0_ n1_; clear hb ho68; obtain ⟨Ao69, co69, eo69⟩ := Kd.N_slice HO105.out; subst eo69) | ((with_reducible refine gate_dst (N := 10) rfl ?_); (try (refine gate_guard (by rfl) ?_; dsimp only)); refine Kd.N_lit k43 _ 43 ?hg (N' := 10) ?hd (xs := ([(⟨5, false, (⟨0, 0, ([] : List (S41))⟩ : S41)⟩ : S43), (⟨1, true, (⟨0, 0, ([] : List (S41))⟩ : S41)⟩ : S43)] : List (S43))) (inner := [.int .i64 5, .bool false, .int .i64 0, .int .i64 0, .slice none 0 0, .int .i64 1, .bool true, .int .i64 0, .int .i64 0, .slice none 0 0]) (ok := (fun k_ => some k_ ≠ (.slice Ao69 y103.length co69 : Value).ownBlock)) (okp := (fun k_ => some k_ ≠ (.slice Ao69 y103.length co69 : Value).ownBlock)) ?hr ?hp (fun _ hk => hk) ((show ∀ k_, w67.heap.size ≤ k_ → (fun k_ => some k_ ≠ (.slice Ao69 y103.length co69 : Value).ownBlock) k_ from fun k_ hk => Kd.fresh' (Kd.N_lt (by (with_reducible repeat (first | apply Kd.N_alloc | apply Kd.N_drewN | apply Kd.N_drew)); exact HO105.out)) k_ hk) _ (Nat.le_refl _)) (Below.refl _ _) (Nat.le_refl _) (by simp) ?_; (case hd => rfl); (case hg => rfl); (case hr => first | (go_simp; done) | (go_simp; rfl)); (case hp => exact (Reps.c5 (show Kd.FK k43 _ _ (⟨5, false, (⟨0, 0, ([] : List (S41))⟩ : S41)⟩ : S43) [.int .i64 5, .bool false, .int .i64 0, .int .i64 0, .slice none 0 0] from (k43_mkF _ _ (⟨5, false, (⟨0, 0, ([] : List (S41))⟩ : S41)⟩ : S43) (Nat.le_refl _) (Kd.F_nil _ _ _))) (Reps.c5 (show Kd.FK k43 _ _ (⟨1, true, (⟨0, 0, ([] : List (S41))⟩ : S41)⟩ : S43) [.int .i64 1, .bool true, .int .i64 0, .int .i64 0, .slice none 0 0] from (k43_mkF _ _ (⟨1, true, (⟨0, 0, ([] : List (S41))⟩ : S41)⟩ : S43) (Nat.le_refl _) (Kd.F_nil _ _ _))) (Reps.none _ _)))); intro v107 w70 ho71 hb hg_ hnew_; clear hg_ hnew_; (first | rw [← Ny106.out] at ho71 | (simp only [Int.reduceToNat] at ho71; rw [← Ny106.out] at ho71)); have n0_ := Aside0.mk (Kd.N_elder' (by (with_reducible repeat (first | apply Kd.N_alloc | apply Kd.N_drewN | apply Kd.N_drew)); exact HO105.out) (Kd.N_base ho71) hb); have n1_ := Aside0.mk (Kd.N_lower ho71 (below_size (by repeat (first | (with_reducible first | exact HB.out | apply below_alloc | apply pw_below_drewN | apply below_drew1) | exact HB.out)))); have n2_ := Aside0.mk (below_step (by repeat (first | (with_reducible first | exact HB.out | apply below_alloc | apply pw_below_drewN | apply below_drew1) | exact HB.out)) hb); clear HO105; clear HB; have HO105 := n0_; have HO108 := n1_; have HB := n2_; clear n0_ n1_ n2_; clear hb ho71; obtain ⟨Ao72, co72, eo72⟩ := Kd.N_slice HO108.out; subst eo72) | ((with_reducible refine gate_dst (N := 14) rfl ?_); (try (refine gate_guard (by rfl) ?_; dsimp only)); refine Kd.N_lit k43 _ 43 ?hg (N' := 14) ?hd (xs := ([(⟨1, false, (⟨0, 0, ([] : List (S41))⟩ : S41)⟩ : S43), (⟨2, true, (⟨0, 0, ([] : List (S41))⟩ : S41)⟩ : S43)] : List (S43))) (inner := [.int .i64 1, .bool false, .int .i64 0, .int .i64 0, .slice none 0 0, .int .i64 2, .bool true, .int .i64 0, .int .i64 0, .slice none 0 0]) (ok := (fun k_ => some k_ ≠ (.slice Ao69 y103.length co69 : Value).ownBlock ∧ some k_ ≠ (.slice Ao72 y106.length co72 : Value).ownBlock)) (okp := (fun k_ => some k_ ≠ (.slice Ao69 y103.length co69 : Value).ownBlock ∧ some k_ ≠ (.slice Ao72 y106.length co72 : Value).ownBlock)) ?hr ?hp (fun _ hk => hk) ((show ∀ k_, w70.heap.size ≤ k_ → (fun k_ => some k_ ≠ (.slice Ao69 y103.length co69 : Value).ownBlock ∧ some k_ ≠ (.slice Ao72 y106.length co72 : Value).ownBlock) k_ from fun k_ hk => ⟨Kd.fresh' (Kd.N_lt (by (with_reducible repeat (first | apply Kd.N_alloc | apply Kd.N_drewN | apply Kd.N_drew)); exact HO105.out)) k_ hk, Kd.fresh' (Kd.N_lt (by (with_reducible repeat (first | apply Kd.N_alloc | apply Kd.N_drewN | apply Kd.N_drew)); exact HO108.out)) k_ hk⟩) _ (Nat.le_refl _)) (Below.refl _ _) (Nat.le_refl _) (by simp) ?_; (case hd => rfl); (case hg => rfl); (case hr => first | (go_simp; done) | (go_simp; rfl)); (case hp => exact (Reps.c5 (show Kd.FK k43 _ _ (⟨1, false, (⟨0, 0, ([] : List (S41))⟩ : S41)⟩ : S43) [.int .i64 1, .bool false, .int .i64 0, .int .i64 0, .slice none 0 0] from (k43_mkF _ _ (⟨1, false, (⟨0, 0, ([] : List (S41))⟩ : S41)⟩ : S43) (Nat.le_refl _) (Kd.F_nil _ _ _))) (Reps.c5 (show Kd.FK k43 _ _ (⟨2, true, (⟨0, 0, ([] : List (S41))⟩ : S41)⟩ : S43) [.int .i64 2, .bool true, .int .i64 0, .int .i64 0, .slice none 0 0] from (k43_mkF _ _ (⟨2, true, (⟨0, 0, ([] : List (S41))⟩ : S41)⟩ : S43) (Nat.le_refl _) (Kd.F_nil _ _ _))) (Reps.none _ _)))); intro v110 w73 ho74 hb hg_ hnew_; clear hg_ hnew_; (first | rw [← Ny109.out] at ho74 | (simp only [Int.reduceToNat] at ho74; rw [← Ny109.out] at ho74)); have n0_ := Aside0.mk (Kd.N_elder' (by (with_reducible repeat (first | apply Kd.N_alloc | apply Kd.N_drewN | apply Kd.N_drew)); exact HO105.out) (Kd.N_base ho74) hb); have n1_ := Aside0.mk (Kd.N_elder' (by (with_reducible repeat (first | apply Kd.N_alloc | apply Kd.N_drewN | apply Kd.N_drew)); exact HO108.out) (Kd.N_base ho74) hb); have n2_ := Aside0.mk (Kd.N_lower ho74 (below_size (by repeat (first | (with_reducible first | exact HB.out | apply below_alloc | apply pw_below_drewN | apply below_drew1) | exact HB.out)))); have n3_ := Aside0.mk (below_step (by repeat (first | (with_reducible first | exact HB.out | apply below_alloc | apply pw_below_drewN | apply below_drew1) | exact HB.out)) hb); clear HO105; clear HO108; clear HB; have HO105 := n0_; have HO108 := n1_; have HO111 := n2_; have HB := n3_; clear n0_ n1_ n2_ n3_; clear hb ho74; obtain ⟨Ao75, co75, eo75⟩ := Kd.N_slice HO111.out; subst eo75) | ((with_reducible refine gate_dst (N := 16) rfl ?_); (try (refine gate_guard (by rfl) ?_; dsimp only)); refine Kd.N_lit k38 _ 38 ?hg (N' := 16) ?hd (xs := ([(⟨2, y103⟩ : S38), (⟨4, y106⟩ : S38), (⟨7, y109⟩ : S38)] : List (S38))) (inner := [.int .i64 2, .slice Ao69 y103.length co69, .int .i64 4, .slice Ao72 y106.length co72, .int .i64 7, .slice Ao75 y109.length co75]) (ok := (fun _ => True)) (okp := (fun _ => True)) ?hr ?hp (fun _ hk => hk) ((show ∀ k_, w73.heap.size ≤ k_ → (fun _ => True) k_ from fun k_ hk => trivial) _ (Nat.le_refl _)) (Below.refl _ _) (Nat.le_refl _) (by simp) ?_; (case hd => rfl); (case hg => rfl); (case hr => first | (go_simp; done) | (go_simp; rfl)); (case hp => exact (Reps.c2 (show Kd.FK k38 _ _ (⟨2, y103⟩ : S38) [.int .i64 2, .slice Ao69 y103.length co69] from (k38_mkF _ _ (⟨2, y103⟩ : S38) (Kd.N_reads' (Kd.N_mono (ok' := (fun _ => True)) (HO105.out) (fun k_ hk => trivial))).2.1 (Kd.N_F (Kd.N_mono (ok' := (fun _ => True)) (HO105.out) (fun k_ hk => trivial))))) (Reps.c2 (show Kd.FK k38 _ _ (⟨4, y106⟩ : S38) [.int .i64 4, .slice Ao72 y106.length co72] from (k38_mkF _ _ (⟨4, y106⟩ : S38) (Kd.N_reads' (Kd.N_mono (ok' := (fun _ => True)) (HO108.out) (fun k_ hk => trivial))).2.1 (Kd.N_F (Kd.N_mono (ok' := (fun _ => True)) (HO108.out) (fun k_ hk => trivial))))) (Reps.c2 (show Kd.FK k38 _ _ (⟨7, y109⟩ : S38) [.int .i64 7, .slice Ao75 y109.length co75] from (k38_mkF _ _ (⟨7, y109⟩ : S38) (Kd.N_reads' (Kd.N_mono (ok' := (fun _ => True)) (HO111.out) (fun k_ hk => trivial))).2.1 (Kd.N_F (Kd.N_mono (ok' := (fun _ => True)) (HO111.out) (fun k_ hk => trivial))))) (Reps.none _ _))))); intro v113 w76 ho77 hb hg_ hnew_; clear hg_ hnew_; (first | rw [← Ny112.out] at ho77 | (simp only [Int.reduceToNat] at ho77; rw [← Ny112.out] at ho77)); have n0_ := Aside0.mk (Kd.N_lower ho77 (below_size (by repeat (first | (with_reducible first | exact HB.out | apply below_alloc | apply pw_below_drewN | apply below_drew1) | exact HB.out)))); have n1_ := Aside0.mk (below_step (by repeat (first | (with_reducible first | exact HB.out | apply below_alloc | apply pw_below_drewN | apply below_drew1) | exact HB.out)) hb); clear HB; clear HO105; clear HO108; clear HO111; have HO114 := n0_; have HB := n1_; clear n0_ n1_; clear hb ho77; obtain ⟨Ao78, co78, eo78⟩ := Kd.N_slice HO114.out; subst eo78) | ((with_reducible refine gate_callee (f := 10) rfl ?_); refine goesL_ (some 18) rfl rfl Try.func10 (by kernel_rfl) rfl #[.slice Ao78 y112.length co78] rfl (by (try simp only [List.map_toArray, List.map_cons, List.map_nil]); first | done | rfl | (simp only [List.length_drop, List.length_take]; rfl)) ?_; (with_reducible refine (post_Pairs.calls _ _ y112 t115 _ ?side1 ?side2 A1.out).mono ?_); (case side1 => repeat (first | exact (Kd.N_reads' HO114.out).2.2 | (with_reducible refine Kd.C_alloc ?_ _) | (with_reducible refine Kd.C_drewN ?_ _) | (with_reducible refine Kd.C_drew ?_))); (case side2 => exact (Kd.N_reads' HO114.out).2.1); rintro e w79 ⟨v116, rfl, ho0, hb⟩; refine ⟨_, rfl, ?_⟩; have n0_ := Aside0.mk (Kd.N_elder' (by (with_reducible repeat (first | apply Kd.N_alloc | apply Kd.N_drewN | apply Kd.N_drew)); exact HO114.out) (Kd.R_base ho0) hb); have n1_ := Aside0.mk (Kd.R_lower ho0 (below_size (by repeat (first | (with_reducible first | exact HB.out | apply below_alloc | apply pw_below_drewN | apply below_drew1) | exact HB.out)))); have n2_ := Aside0.mk (below_step (by repeat (first | (with_reducible first | exact HB.out | apply below_alloc | apply pw_below_drewN | apply below_drew1) | exact HB.out)) hb); clear HO114; clear HB; have HO114 := n0_; have HO117 := n1_; have HB := n2_; clear n0_ n1_ n2_; (try clear hb); (try clear hb2); (try clear hk); (try clear hi); (try clear ho0)) | ((with_reducible refine gate_callee (f := 12) rfl ?_); refine goesL_ (some 20) rfl rfl Try.func12 (by kernel_rfl) rfl #[.slice Ao78 y112.length co78] rfl (by (try simp only [List.map_toArray, List.map_cons, List.map_nil]); first | done | rfl | (simp only [List.length_drop, List.length_take]; rfl)) ?_; (with_reducible refine (post_Ins.calls _ _ y112 t118 _ ?side1 ?side2 A2.out).mono ?_); (case side1 => repeat (first | exact (Kd.N_reads' HO114.out).2.2 | (with_reducible refine Kd.C_alloc ?_ _) | (with_reducible refine Kd.C_drewN ?_ _) | (with_reducible refine Kd.C_drew ?_))); (case side2 => exact (Kd.N_reads' HO114.out).2.1); rintro e w80 ⟨v119, rfl, ho0, hb⟩; refine ⟨_, rfl, ?_⟩; have n0_ := Aside0.mk (Kd.N_elder' (by (with_reducible repeat (first | apply Kd.N_alloc | apply Kd.N_drewN | apply Kd.N_drew)); exact HO114.out) (Kd.R_base ho0) hb); have n1_ := Aside0.mk (Kd.R_elder' (by (with_reducible repeat (first | apply Kd.R_alloc | apply Kd.R_drewN | apply Kd.R_drew)); exact HO117.out) (Kd.R_base ho0) hb); have n2_ := Aside0.mk (Kd.R_lower (Kd.R_new' ho0 (Kd.R_lt (by (with_reducible repeat (first | apply Kd.R_alloc | apply Kd.R_drewN | apply Kd.R_drew)); exact HO117.out))) (below_size (by repeat (first | (with_reducible first | exact HB.out | apply below_alloc | apply pw_below_drewN | apply below_drew1) | exact HB.out)))); have n3_ := Aside0.mk (below_step (by repeat (first | (with_reducible first | exact HB.out | apply below_alloc | apply pw_below_drewN | apply below_drew1) | exact HB.out)) hb); clear HO114; clear HO117; clear HB; have HO114 := n0_; have HO117 := n1_; have HO120 := n2_; have HB := n3_; clear n0_ n1_ n2_ n3_; (try clear hb); (try clear hb2); (try clear hk); (try clear hi); (try clear ho0)) | ((with_reducible refine gate_callee (f := 14) rfl ?_); refine goesL_ (some 22) rfl rfl Try.func14 (by kernel_rfl) rfl #[.slice Ao78 y112.length co78] rfl (by (try simp only [List.map_toArray, List.map_cons, List.map_nil]); first | done | rfl | (simp only [List.length_drop, List.length_take]; rfl)) ?_; (with_reducible refine (post_Outs.calls _ _ y112 t121 _ ?side1 ?side2 A3.out).mono ?_); (case side1 => repeat (first | exact (Kd.N_reads' HO114.out).2.2 | (with_reducible refine Kd.C_alloc ?_ _) | (with_reducible refine Kd.C_drewN ?_ _) | (with_reducible refine Kd.C_drew ?_))); (case side2 => exact (Kd.N_reads' HO114.out).2.1); rintro e w81 ⟨v122, rfl, ho0, hb⟩; refine ⟨_, rfl, ?_⟩; have n0_ := Aside0.mk (Kd.N_elder' (by (with_reducible repeat (first | apply Kd.N_alloc | apply Kd.N_drewN | apply Kd.N_drew)); exact HO114.out) (Kd.R_base ho0) hb); have n1_ := Aside0.mk (Kd.R_elder' (by (with_reducible repeat (first | apply Kd.R_alloc | apply Kd.R_drewN | apply Kd.R_drew)); exact HO117.out) (Kd.R_base ho0) hb); have n2_ := Aside0.mk (Kd.R_elder' (by (with_reducible repeat (first | apply Kd.R_alloc | apply Kd.R_drewN | apply Kd.R_drew)); exact HO120.out) (Kd.R_base ho0) hb); have n3_ := Aside0.mk (Kd.R_lower (Kd.R_new' (Kd.R_new' ho0 (Kd.R_lt (by (with_reducible repeat (first | apply Kd.R_alloc | apply Kd.R_drewN | apply Kd.R_drew)); exact HO117.out))) (Kd.R_lt (by (with_reducible repeat (first | apply Kd.R_alloc | apply Kd.R_drewN | apply Kd.R_drew)); exact HO120.out))) (below_size (by repeat (first | (with_reducible first | exact HB.out | apply below_alloc | apply pw_below_drewN | apply below_drew1) | exact HB.out)))); have n4_ := Aside0.mk (below_step (by repeat (first | (with_reducible first | exact HB.out | apply below_alloc | apply pw_below_drewN | apply below_drew1) | exact HB.out)) hb); clear HO114; clear HO117; clear HO120; clear HB; have HO114 := n0_; have HO117 := n1_; have HO120 := n2_; have HO123 := n3_; have HB := n4_; clear n0_ n1_ n2_ n3_ n4_; (try clear hb); (try clear hb2); (try clear hk); (try clear hi); (try clear ho0); obtain ⟨Ao82, co82, eo82⟩ := Kd.R_slice HO117.out; subst eo82; have p124 : 0 ≤ (0 : Int) := (by omega); have q124 : 0 < (t115.length : Int) := of_decide_eq_true (by first | (with_reducible assumption) | assumption); obtain ⟨ad124, e124, hx124_0, hx124_1, hx124_2, hx124_3, hx124_4⟩ := at_T47 (Kd.R_reads' HO117.out).2.2 0 p124 q124; cases e124; have qi124 : (0 < t115.length) = True := eq_true (by omega); (try rw [show ((0 : Int)).toNat = 0 from rfl] at hx124_0); (try rw [show 0 * 5 = 0 from rfl] at hx124_0); (try rw [Addr.add_zero'] at hx124_0); (try rw [show ((0 : Int)).toNat = 0 from rfl] at hx124_1); (try rw [show 0 * 5 = 0 from rfl] at hx124_1); (try rw [Addr.add_zero'] at hx124_1); (try rw [show ((0 : Int)).toNat = 0 from rfl] at hx124_2); (try rw [show 0 * 5 = 0 from rfl] at hx124_2); (try rw [Addr.add_zero'] at hx124_2); (try rw [show ((0 : Int)).toNat = 0 from rfl] at hx124_3); (try rw [show 0 * 5 = 0 from rfl] at hx124_3); (try rw [Addr.add_zero'] at hx124_3); (try rw [show ((0 : Int)).toNat = 0 from rfl] at hx124_4); (try rw [show 0 * 5 = 0 from rfl] at hx124_4); (try rw [Addr.add_zero'] at hx124_4); replace p124 := eq_true p124; replace q124 := eq_true q124; have p125 : 0 ≤ (1 : Int) := (by omega); have q125 : 1 < (t115.length : Int) := of_decide_eq_true (by first | (with_reducible assumption) | assumption); obtain ⟨ad125, e125, hx125_0, hx125_1, hx125_2, hx125_3, hx125_4⟩ := at_T47 (Kd.R_reads' HO117.out).2.2 1 p125 q125; obtain rfl : ad124 = ad125 := (by injection e125); (try simp only [show (1 : Int).toNat = 1 from rfl, Nat.reduceMul, Nat.reduceEqDiff, Go.Addr.add, ↓reduceIte] at hx125_0); (try simp only [show (1 : Int).toNat = 1 from rfl, Nat.reduceMul, Nat.reduceEqDiff, Go.Addr.add, ↓reduceIte] at hx125_1); (try simp only [show (1 : Int).toNat = 1 from rfl, Nat.reduceMul, Nat.reduceEqDiff, Go.Addr.add, ↓reduceIte] at hx125_2); (try simp only [show (1 : Int).toNat = 1 from rfl, Nat.reduceMul, Nat.reduceEqDiff, Go.Addr.add, ↓reduceIte] at hx125_3); (try simp only [show (1 : Int).toNat = 1 from rfl, Nat.reduceMul, Nat.reduceEqDiff, Go.Addr.add, ↓reduceIte] at hx125_4); have qi125 : (1 < t115.length) = True := eq_true (by omega); (try rw [show ((1 : Int)).toNat = 1 from rfl] at hx125_0); (try rw [show 1 * 5 = 5 from rfl] at hx125_0); (try rw [show ((1 : Int)).toNat = 1 from rfl] at hx125_1); (try rw [show 1 * 5 = 5 from rfl] at hx125_1); (try rw [show ((1 : Int)).toNat = 1 from rfl] at hx125_2); (try rw [show 1 * 5 = 5 from rfl] at hx125_2); (try rw [show ((1 : Int)).toNat = 1 from rfl] at hx125_3); (try rw [show 1 * 5 = 5 from rfl] at hx125_3); (try rw [show ((1 : Int)).toNat = 1 from rfl] at hx125_4); (try rw [show 1 * 5 = 5 from rfl] at hx125_4); replace p125 := eq_true p125; replace q125 := eq_true q125; obtain ⟨Ao83, co83, eo83⟩ := Kd.R_slice HO120.out; subst eo83))
              go_ret
              exact ⟨by first | rfl | (simp [errW_none, errW_some] <;> rfl) | (simp [*, errW_none, errW_some] <;> rfl), by repeat (first | (with_reducible first | exact HB.out | apply below_alloc | apply pw_below_drewN | apply below_drew1) | exact HB.out)⟩
          · rw [if_neg c8] at H
            have c8b0 : (((rd_T47 t115 1).f0) == 4 && (((rd_T47 t115 1).f1) == 1 && (((rd_T47 t115 1).f2) == 7 && (((rd_T47 t115 1).f3) == 0 && (((rd_T47 t115 1).f4) == 1))))) = false := by simpa using c8
            (try (have c8b1 : decide (((rd_T47 t115 1).f0) = 4 && (((rd_T47 t115 1).f1) == 1 && (((rd_T47 t115 1).f2) == 7 && (((rd_T47 t115 1).f3) == 0 && (((rd_T47 t115 1).f4) == 1))))) = false := by simpa using c8))
            (try (have c8b2 : (((rd_T47 t115 1).f0) == 4 && (((rd_T47 t115 1).f1) == 1 && (((rd_T47 t115 1).f2) == 7 && (((rd_T47 t115 1).f3) == 0 && (((rd_T47 t115 1).f4) == 1))))) = false := by simpa using c8))
            (try (have c8b3 : ¬ (((rd_T47 t115 1).f0) = 4 && (((rd_T47 t115 1).f1) == 1 && (((rd_T47 t115 1).f2) == 7 && (((rd_T47 t115 1).f3) == 0 && (((rd_T47 t115 1).f4) == 1))))) := by simpa using c8))
            clear c8
            obtain rfl := Option.some.inj H
            go_enter Try.func6, Try.ntmps6
            go_wp2_with (first | ((with_reducible refine gate_dst (N := 6) rfl ?_); (try (refine gate_guard (by rfl) ?_; dsimp only)); refine Kd.N_lit k43 _ 43 ?hg (N' := 6) ?hd (xs := ([(⟨5, true, (⟨0, 0, ([] : List (S41))⟩ : S41)⟩ : S43)] : List (S43))) (inner := [.int .i64 5, .bool true, .int .i64 0, .int .i64 0, .slice none 0 0]) (ok := (fun _ => True)) (okp := (fun _ => True)) ?hr ?hp (fun _ hk => hk) ((show ∀ k_, w.heap.size ≤ k_ → (fun _ => True) k_ from fun k_ hk => trivial) _ (Nat.le_refl _)) (Below.refl _ _) (Nat.le_refl _) (by simp) ?_; (case hd => rfl); (case hg => rfl); (case hr => first | (go_simp; done) | (go_simp; rfl)); (case hp => exact (Reps.c5 (show Kd.FK k43 _ _ (⟨5, true, (⟨0, 0, ([] : List (S41))⟩ : S41)⟩ : S43) [.int .i64 5, .bool true, .int .i64 0, .int .i64 0, .slice none 0 0] from (k43_mkF _ _ (⟨5, true, (⟨0, 0, ([] : List (S41))⟩ : S41)⟩ : S43) (Nat.le_refl _) (Kd.F_nil _ _ _))) (Reps.none _ _))); intro v104 w84 ho85 hb hg_ hnew_; clear hg_ hnew_; (first | rw [← Ny103.out] at ho85 | (simp only [Int.reduceToNat] at ho85; rw [← Ny103.out] at ho85)); have n0_ := Aside0.mk (Kd.N_lower ho85 (below_size (by repeat (first | (with_reducible first | exact HB.out | apply below_alloc | apply pw_below_drewN | apply below_drew1) | exact HB.out)))); have n1_ := Aside0.mk (below_step (by repeat (first | (with_reducible first | exact HB.out | apply below_alloc | apply pw_below_drewN | apply below_drew1) | exact HB.out)) hb); clear HB; have HO105 := n0_; have HB := n1_; clear n0_ n1_; clear hb ho85; obtain ⟨Ao86, co86, eo86⟩ := Kd.N_slice HO105.out; subst eo86) | ((with_reducible refine gate_dst (N := 10) rfl ?_); (try (refine gate_guard (by rfl) ?_; dsimp only)); refine Kd.N_lit k43 _ 43 ?hg (N' := 10) ?hd (xs := ([(⟨5, false, (⟨0, 0, ([] : List (S41))⟩ : S41)⟩ : S43), (⟨1, true, (⟨0, 0, ([] : List (S41))⟩ : S41)⟩ : S43)] : List (S43))) (inner := [.int .i64 5, .bool false, .int .i64 0, .int .i64 0, .slice none 0 0, .int .i64 1, .bool true, .int .i64 0, .int .i64 0, .slice none 0 0]) (ok := (fun k_ => some k_ ≠ (.slice Ao86 y103.length co86 : Value).ownBlock)) (okp := (fun k_ => some k_ ≠ (.slice Ao86 y103.length co86 : Value).ownBlock)) ?hr ?hp (fun _ hk => hk) ((show ∀ k_, w84.heap.size ≤ k_ → (fun k_ => some k_ ≠ (.slice Ao86 y103.length co86 : Value).ownBlock) k_ from fun k_ hk => Kd.fresh' (Kd.N_lt (by (with_reducible repeat (first | apply Kd.N_alloc | apply Kd.N_drewN | apply Kd.N_drew)); exact HO105.out)) k_ hk) _ (Nat.le_refl _)) (Below.refl _ _) (Nat.le_refl _) (by simp) ?_; (case hd => rfl); (case hg => rfl); (case hr => first | (go_simp; done) | (go_simp; rfl)); (case hp => exact (Reps.c5 (show Kd.FK k43 _ _ (⟨5, false, (⟨0, 0, ([] : List (S41))⟩ : S41)⟩ : S43) [.int .i64 5, .bool false, .int .i64 0, .int .i64 0, .slice none 0 0] from (k43_mkF _ _ (⟨5, false, (⟨0, 0, ([] : List (S41))⟩ : S41)⟩ : S43) (Nat.le_refl _) (Kd.F_nil _ _ _))) (Reps.c5 (show Kd.FK k43 _ _ (⟨1, true, (⟨0, 0, ([] : List (S41))⟩ : S41)⟩ : S43) [.int .i64 1, .bool true, .int .i64 0, .int .i64 0, .slice none 0 0] from (k43_mkF _ _ (⟨1, true, (⟨0, 0, ([] : List (S41))⟩ : S41)⟩ : S43) (Nat.le_refl _) (Kd.F_nil _ _ _))) (Reps.none _ _)))); intro v107 w87 ho88 hb hg_ hnew_; clear hg_ hnew_; (first | rw [← Ny106.out] at ho88 | (simp only [Int.reduceToNat] at ho88; rw [← Ny106.out] at ho88)); have n0_ := Aside0.mk (Kd.N_elder' (by (with_reducible repeat (first | apply Kd.N_alloc | apply Kd.N_drewN | apply Kd.N_drew)); exact HO105.out) (Kd.N_base ho88) hb); have n1_ := Aside0.mk (Kd.N_lower ho88 (below_size (by repeat (first | (with_reducible first | exact HB.out | apply below_alloc | apply pw_below_drewN | apply below_drew1) | exact HB.out)))); have n2_ := Aside0.mk (below_step (by repeat (first | (with_reducible first | exact HB.out | apply below_alloc | apply pw_below_drewN | apply below_drew1) | exact HB.out)) hb); clear HO105; clear HB; have HO105 := n0_; have HO108 := n1_; have HB := n2_; clear n0_ n1_ n2_; clear hb ho88; obtain ⟨Ao89, co89, eo89⟩ := Kd.N_slice HO108.out; subst eo89) | ((with_reducible refine gate_dst (N := 14) rfl ?_); (try (refine gate_guard (by rfl) ?_; dsimp only)); refine Kd.N_lit k43 _ 43 ?hg (N' := 14) ?hd (xs := ([(⟨1, false, (⟨0, 0, ([] : List (S41))⟩ : S41)⟩ : S43), (⟨2, true, (⟨0, 0, ([] : List (S41))⟩ : S41)⟩ : S43)] : List (S43))) (inner := [.int .i64 1, .bool false, .int .i64 0, .int .i64 0, .slice none 0 0, .int .i64 2, .bool true, .int .i64 0, .int .i64 0, .slice none 0 0]) (ok := (fun k_ => some k_ ≠ (.slice Ao86 y103.length co86 : Value).ownBlock ∧ some k_ ≠ (.slice Ao89 y106.length co89 : Value).ownBlock)) (okp := (fun k_ => some k_ ≠ (.slice Ao86 y103.length co86 : Value).ownBlock ∧ some k_ ≠ (.slice Ao89 y106.length co89 : Value).ownBlock)) ?hr ?hp (fun _ hk => hk) ((show ∀ k_, w87.heap.size ≤ k_ → (fun k_ => some k_ ≠ (.slice Ao86 y103.length co86 : Value).ownBlock ∧ some k_ ≠ (.slice Ao89 y106.length co89 : Value).ownBlock) k_ from fun k_ hk => ⟨Kd.fresh' (Kd.N_lt (by (with_reducible repeat (first | apply Kd.N_alloc | apply Kd.N_drewN | apply Kd.N_drew)); exact HO105.out)) k_ hk, Kd.fresh' (Kd.N_lt (by (with_reducible repeat (first | apply Kd.N_alloc | apply Kd.N_drewN | apply Kd.N_drew)); exact HO108.out)) k_ hk⟩) _ (Nat.le_refl _)) (Below.refl _ _) (Nat.le_refl _) (by simp) ?_; (case hd => rfl); (case hg => rfl); (case hr => first | (go_simp; done) | (go_simp; rfl)); (case hp => exact (Reps.c5 (show Kd.FK k43 _ _ (⟨1, false, (⟨0, 0, ([] : List (S41))⟩ : S41)⟩ : S43) [.int .i64 1, .bool false, .int .i64 0, .int .i64 0, .slice none 0 0] from (k43_mkF _ _ (⟨1, false, (⟨0, 0, ([] : List (S41))⟩ : S41)⟩ : S43) (Nat.le_refl _) (Kd.F_nil _ _ _))) (Reps.c5 (show Kd.FK k43 _ _ (⟨2, true, (⟨0, 0, ([] : List (S41))⟩ : S41)⟩ : S43) [.int .i64 2, .bool true, .int .i64 0, .int .i64 0, .slice none 0 0] from (k43_mkF _ _ (⟨2, true, (⟨0, 0, ([] : List (S41))⟩ : S41)⟩ : S43) (Nat.le_refl _) (Kd.F_nil _ _ _))) (Reps.none _ _)))); intro v110 w90 ho91 hb hg_ hnew_; clear hg_ hnew_; (first | rw [← Ny109.out] at ho91 | (simp only [Int.reduceToNat] at ho91; rw [← Ny109.out] at ho91)); have n0_ := Aside0.mk (Kd.N_elder' (by (with_reducible repeat (first | apply Kd.N_alloc | apply Kd.N_drewN | apply Kd.N_drew)); exact HO105.out) (Kd.N_base ho91) hb); have n1_ := Aside0.mk (Kd.N_elder' (by (with_reducible repeat (first | apply Kd.N_alloc | apply Kd.N_drewN | apply Kd.N_drew)); exact HO108.out) (Kd.N_base ho91) hb); have n2_ := Aside0.mk (Kd.N_lower ho91 (below_size (by repeat (first | (with_reducible first | exact HB.out | apply below_alloc | apply pw_below_drewN | apply below_drew1) | exact HB.out)))); have n3_ := Aside0.mk (below_step (by repeat (first | (with_reducible first | exact HB.out | apply below_alloc | apply pw_below_drewN | apply below_drew1) | exact HB.out)) hb); clear HO105; clear HO108; clear HB; have HO105 := n0_; have HO108 := n1_; have HO111 := n2_; have HB := n3_; clear n0_ n1_ n2_ n3_; clear hb ho91; obtain ⟨Ao92, co92, eo92⟩ := Kd.N_slice HO111.out; subst eo92) | ((with_reducible refine gate_dst (N := 16) rfl ?_); (try (refine gate_guard (by rfl) ?_; dsimp only)); refine Kd.N_lit k38 _ 38 ?hg (N' := 16) ?hd (xs := ([(⟨2, y103⟩ : S38), (⟨4, y106⟩ : S38), (⟨7, y109⟩ : S38)] : List (S38))) (inner := [.int .i64 2, .slice Ao86 y103.length co86, .int .i64 4, .slice Ao89 y106.length co89, .int .i64 7, .slice Ao92 y109.length co92]) (ok := (fun _ => True)) (okp := (fun _ => True)) ?hr ?hp (fun _ hk => hk) ((show ∀ k_, w90.heap.size ≤ k_ → (fun _ => True) k_ from fun k_ hk => trivial) _ (Nat.le_refl _)) (Below.refl _ _) (Nat.le_refl _) (by simp) ?_; (case hd => rfl); (case hg => rfl); (case hr => first | (go_simp; done) | (go_simp; rfl)); (case hp => exact (Reps.c2 (show Kd.FK k38 _ _ (⟨2, y103⟩ : S38) [.int .i64 2, .slice Ao86 y103.length co86] from (k38_mkF _ _ (⟨2, y103⟩ : S38) (Kd.N_reads' (Kd.N_mono (ok' := (fun _ => True)) (HO105.out) (fun k_ hk => trivial))).2.1 (Kd.N_F (Kd.N_mono (ok' := (fun _ => True)) (HO105.out) (fun k_ hk => trivial))))) (Reps.c2 (show Kd.FK k38 _ _ (⟨4, y106⟩ : S38) [.int .i64 4, .slice Ao89 y106.length co89] from (k38_mkF _ _ (⟨4, y106⟩ : S38) (Kd.N_reads' (Kd.N_mono (ok' := (fun _ => True)) (HO108.out) (fun k_ hk => trivial))).2.1 (Kd.N_F (Kd.N_mono (ok' := (fun _ => True)) (HO108.out) (fun k_ hk => trivial))))) (Reps.c2 (show Kd.FK k38 _ _ (⟨7, y109⟩ : S38) [.int .i64 7, .slice Ao92 y109.length co92] from (k38_mkF _ _ (⟨7, y109⟩ : S38) (Kd.N_reads' (Kd.N_mono (ok' := (fun _ => True)) (HO111.out) (fun k_ hk => trivial))).2.1 (Kd.N_F (Kd.N_mono (ok' := (fun _ => True)) (HO111.out) (fun k_ hk => trivial))))) (Reps.none _ _))))); intro v113 w93 ho94 hb hg_ hnew_; clear hg_ hnew_; (first | rw [← Ny112.out] at ho94 | (simp only [Int.reduceToNat] at ho94; rw [← Ny112.out] at ho94)); have n0_ := Aside0.mk (Kd.N_lower ho94 (below_size (by repeat (first | (with_reducible first | exact HB.out | apply below_alloc | apply pw_below_drewN | apply below_drew1) | exact HB.out)))); have n1_ := Aside0.mk (below_step (by repeat (first | (with_reducible first | exact HB.out | apply below_alloc | apply pw_below_drewN | apply below_drew1) | exact HB.out)) hb); clear HB; clear HO105; clear HO108; clear HO111; have HO114 := n0_; have HB := n1_; clear n0_ n1_; clear hb ho94; obtain ⟨Ao95, co95, eo95⟩ := Kd.N_slice HO114.out; subst eo95) | ((with_reducible refine gate_callee (f := 10) rfl ?_); refine goesL_ (some 18) rfl rfl Try.func10 (by kernel_rfl) rfl #[.slice Ao95 y112.length co95] rfl (by (try simp only [List.map_toArray, List.map_cons, List.map_nil]); first | done | rfl | (simp only [List.length_drop, List.length_take]; rfl)) ?_; (with_reducible refine (post_Pairs.calls _ _ y112 t115 _ ?side1 ?side2 A1.out).mono ?_); (case side1 => repeat (first | exact (Kd.N_reads' HO114.out).2.2 | (with_reducible refine Kd.C_alloc ?_ _) | (with_reducible refine Kd.C_drewN ?_ _) | (with_reducible refine Kd.C_drew ?_))); (case side2 => exact (Kd.N_reads' HO114.out).2.1); rintro e w96 ⟨v116, rfl, ho0, hb⟩; refine ⟨_, rfl, ?_⟩; have n0_ := Aside0.mk (Kd.N_elder' (by (with_reducible repeat (first | apply Kd.N_alloc | apply Kd.N_drewN | apply Kd.N_drew)); exact HO114.out) (Kd.R_base ho0) hb); have n1_ := Aside0.mk (Kd.R_lower ho0 (below_size (by repeat (first | (with_reducible first | exact HB.out | apply below_alloc | apply pw_below_drewN | apply below_drew1) | exact HB.out)))); have n2_ := Aside0.mk (below_step (by repeat (first | (with_reducible first | exact HB.out | apply below_alloc | apply pw_below_drewN | apply below_drew1) | exact HB.out)) hb); clear HO114; clear HB; have HO114 := n0_; have HO117 := n1_; have HB := n2_; clear n0_ n1_ n2_; (try clear hb); (try clear hb2); (try clear hk); (try clear hi); (try clear ho0)) | ((with_reducible refine gate_callee (f := 12) rfl ?_); refine goesL_ (some 20) rfl rfl Try.func12 (by kernel_rfl) rfl #[.slice Ao95 y112.length co95] rfl (by (try simp only [List.map_toArray, List.map_cons, List.map_nil]); first | done | rfl | (simp only [List.length_drop, List.length_take]; rfl)) ?_; (with_reducible refine (post_Ins.calls _ _ y112 t118 _ ?side1 ?side2 A2.out).mono ?_); (case side1 => repeat (first | exact (Kd.N_reads' HO114.out).2.2 | (with_reducible refine Kd.C_alloc ?_ _) | (with_reducible refine Kd.C_drewN ?_ _) | (with_reducible refine Kd.C_drew ?_))); (case side2 => exact (Kd.N_reads' HO114.out).2.1); rintro e w97 ⟨v119, rfl, ho0, hb⟩; refine ⟨_, rfl, ?_⟩; have n0_ := Aside0.mk (Kd.N_elder' (by (with_reducible repeat (first | apply Kd.N_alloc | apply Kd.N_drewN | apply Kd.N_drew)); exact HO114.out) (Kd.R_base ho0) hb); have n1_ := Aside0.mk (Kd.R_elder' (by (with_reducible repeat (first | apply Kd.R_alloc | apply Kd.R_drewN | apply Kd.R_drew)); exact HO117.out) (Kd.R_base ho0) hb); have n2_ := Aside0.mk (Kd.R_lower (Kd.R_new' ho0 (Kd.R_lt (by (with_reducible repeat (first | apply Kd.R_alloc | apply Kd.R_drewN | apply Kd.R_drew)); exact HO117.out))) (below_size (by repeat (first | (with_reducible first | exact HB.out | apply below_alloc | apply pw_below_drewN | apply below_drew1) | exact HB.out)))); have n3_ := Aside0.mk (below_step (by repeat (first | (with_reducible first | exact HB.out | apply below_alloc | apply pw_below_drewN | apply below_drew1) | exact HB.out)) hb); clear HO114; clear HO117; clear HB; have HO114 := n0_; have HO117 := n1_; have HO120 := n2_; have HB := n3_; clear n0_ n1_ n2_ n3_; (try clear hb); (try clear hb2); (try clear hk); (try clear hi); (try clear ho0)) | ((with_reducible refine gate_callee (f := 14) rfl ?_); refine goesL_ (some 22) rfl rfl Try.func14 (by kernel_rfl) rfl #[.slice Ao95 y112.length co95] rfl (by (try simp only [List.map_toArray, List.map_cons, List.map_nil]); first | done | rfl | (simp only [List.length_drop, List.length_take]; rfl)) ?_; (with_reducible refine (post_Outs.calls _ _ y112 t121 _ ?side1 ?side2 A3.out).mono ?_); (case side1 => repeat (first | exact (Kd.N_reads' HO114.out).2.2 | (with_reducible refine Kd.C_alloc ?_ _) | (with_reducible refine Kd.C_drewN ?_ _) | (with_reducible refine Kd.C_drew ?_))); (case side2 => exact (Kd.N_reads' HO114.out).2.1); rintro e w98 ⟨v122, rfl, ho0, hb⟩; refine ⟨_, rfl, ?_⟩; have n0_ := Aside0.mk (Kd.N_elder' (by (with_reducible repeat (first | apply Kd.N_alloc | apply Kd.N_drewN | apply Kd.N_drew)); exact HO114.out) (Kd.R_base ho0) hb); have n1_ := Aside0.mk (Kd.R_elder' (by (with_reducible repeat (first | apply Kd.R_alloc | apply Kd.R_drewN | apply Kd.R_drew)); exact HO117.out) (Kd.R_base ho0) hb); have n2_ := Aside0.mk (Kd.R_elder' (by (with_reducible repeat (first | apply Kd.R_alloc | apply Kd.R_drewN | apply Kd.R_drew)); exact HO120.out) (Kd.R_base ho0) hb); have n3_ := Aside0.mk (Kd.R_lower (Kd.R_new' (Kd.R_new' ho0 (Kd.R_lt (by (with_reducible repeat (first | apply Kd.R_alloc | apply Kd.R_drewN | apply Kd.R_drew)); exact HO117.out))) (Kd.R_lt (by (with_reducible repeat (first | apply Kd.R_alloc | apply Kd.R_drewN | apply Kd.R_drew)); exact HO120.out))) (below_size (by repeat (first | (with_reducible first | exact HB.out | apply below_alloc | apply pw_below_drewN | apply below_drew1) | exact HB.out)))); have n4_ := Aside0.mk (below_step (by repeat (first | (with_reducible first | exact HB.out | apply below_alloc | apply pw_below_drewN | apply below_drew1) | exact HB.out)) hb); clear HO114; clear HO117; clear HO120; clear HB; have HO114 := n0_; have HO117 := n1_; have HO120 := n2_; have HO123 := n3_; have HB := n4_; clear n0_ n1_ n2_ n3_ n4_; (try clear hb); (try clear hb2); (try clear hk); (try clear hi); (try clear ho0); obtain ⟨Ao99, co99, eo99⟩ := Kd.R_slice HO117.out; subst eo99; have p124 : 0 ≤ (0 : Int) := (by omega); have q124 : 0 < (t115.length : Int) := of_decide_eq_true (by first | (with_reducible assumption) | assumption); obtain ⟨ad124, e124, hx124_0, hx124_1, hx124_2, hx124_3, hx124_4⟩ := at_T47 (Kd.R_reads' HO117.out).2.2 0 p124 q124; cases e124; have qi124 : (0 < t115.length) = True := eq_true (by omega); (try rw [show ((0 : Int)).toNat = 0 from rfl] at hx124_0); (try rw [show 0 * 5 = 0 from rfl] at hx124_0); (try rw [Addr.add_zero'] at hx124_0); (try rw [show ((0 : Int)).toNat = 0 from rfl] at hx124_1); (try rw [show 0 * 5 = 0 from rfl] at hx124_1); (try rw [Addr.add_zero'] at hx124_1); (try rw [show ((0 : Int)).toNat = 0 from rfl] at hx124_2); (try rw [show 0 * 5 = 0 from rfl] at hx124_2); (try rw [Addr.add_zero'] at hx124_2); (try rw [show ((0 : Int)).toNat = 0 from rfl] at hx124_3); (try rw [show 0 * 5 = 0 from rfl] at hx124_3); (try rw [Addr.add_zero'] at hx124_3); (try rw [show ((0 : Int)).toNat = 0 from rfl] at hx124_4); (try rw [show 0 * 5 = 0 from rfl] at hx124_4); (try rw [Addr.add_zero'] at hx124_4); replace p124 := eq_true p124; replace q124 := eq_true q124; have p125 : 0 ≤ (1 : Int) := (by omega); have q125 : 1 < (t115.length : Int) := of_decide_eq_true (by first | (with_reducible assumption) | assumption); obtain ⟨ad125, e125, hx125_0, hx125_1, hx125_2, hx125_3, hx125_4⟩ := at_T47 (Kd.R_reads' HO117.out).2.2 1 p125 q125; obtain rfl : ad124 = ad125 := (by injection e125); (try simp only [show (1 : Int).toNat = 1 from rfl, Nat.reduceMul, Nat.reduceEqDiff, Go.Addr.add, ↓reduceIte] at hx125_0); (try simp only [show (1 : Int).toNat = 1 from rfl, Nat.reduceMul, Nat.reduceEqDiff, Go.Addr.add, ↓reduceIte] at hx125_1); (try simp only [show (1 : Int).toNat = 1 from rfl, Nat.reduceMul, Nat.reduceEqDiff, Go.Addr.add, ↓reduceIte] at hx125_2); (try simp only [show (1 : Int).toNat = 1 from rfl, Nat.reduceMul, Nat.reduceEqDiff, Go.Addr.add, ↓reduceIte] at hx125_3); (try simp only [show (1 : Int).toNat = 1 from rfl, Nat.reduceMul, Nat.reduceEqDiff, Go.Addr.add, ↓reduceIte] at hx125_4); have qi125 : (1 < t115.length) = True := eq_true (by omega); (try rw [show ((1 : Int)).toNat = 1 from rfl] at hx125_0); (try rw [show 1 * 5 = 5 from rfl] at hx125_0); (try rw [show ((1 : Int)).toNat = 1 from rfl] at hx125_1); (try rw [show 1 * 5 = 5 from rfl] at hx125_1); (try rw [show ((1 : Int)).toNat = 1 from rfl] at hx125_2); (try rw [show 1 * 5 = 5 from rfl] at hx125_2); (try rw [show ((1 : Int)).toNat = 1 from rfl] at hx125_3); (try rw [show 1 * 5 = 5 from rfl] at hx125_3); (try rw [show ((1 : Int)).toNat = 1 from rfl] at hx125_4); (try rw [show 1 * 5 = 5 from rfl] at hx125_4); replace p125 := eq_true p125; replace q125 := eq_true q125))
            go_ret
            exact ⟨by first | rfl | (simp [errW_none, errW_some] <;> rfl) | (simp [*, errW_none, errW_some] <;> rfl), by repeat (first | (with_reducible first | exact HB.out | apply below_alloc | apply pw_below_drewN | apply below_drew1) | exact HB.out)⟩
        · rw [if_neg c7] at H
          exact absurd H (by simp)
      · rw [if_neg c6] at H
        have c6b0 : (((rd_T47 t115 0).f0) == 2 && (((rd_T47 t115 0).f1) == 0 && (((rd_T47 t115 0).f2) == 4 && (((rd_T47 t115 0).f3) == 0 && (((rd_T47 t115 0).f4) == 5))))) = false := by simpa using c6
        (try (have c6b1 : decide (((rd_T47 t115 0).f0) = 2 && (((rd_T47 t115 0).f1) == 0 && (((rd_T47 t115 0).f2) == 4 && (((rd_T47 t115 0).f3) == 0 && (((rd_T47 t115 0).f4) == 5))))) = false := by simpa using c6))
        (try (have c6b2 : (((rd_T47 t115 0).f0) == 2 && (((rd_T47 t115 0).f1) == 0 && (((rd_T47 t115 0).f2) == 4 && (((rd_T47 t115 0).f3) == 0 && (((rd_T47 t115 0).f4) == 5))))) = false := by simpa using c6))
        (try (have c6b3 : ¬ (((rd_T47 t115 0).f0) = 2 && (((rd_T47 t115 0).f1) == 0 && (((rd_T47 t115 0).f2) == 4 && (((rd_T47 t115 0).f3) == 0 && (((rd_T47 t115 0).f4) == 5))))) := by simpa using c6))
        clear c6
        obtain rfl := Option.some.inj H
        go_enter Try.func6, Try.ntmps6
        go_wp2_with (first | ((with_reducible refine gate_dst (N := 6) rfl ?_); (try (refine gate_guard (by rfl) ?_; dsimp only)); refine Kd.N_lit k43 _ 43 ?hg (N' := 6) ?hd (xs := ([(⟨5, true, (⟨0, 0, ([] : List (S41))⟩ : S41)⟩ : S43)] : List (S43))) (inner := [.int .i64 5, .bool true, .int .i64 0, .int .i64 0, .slice none 0 0]) (ok := (fun _ => True)) (okp := (fun _ => True)) ?hr ?hp (fun _ hk => hk) ((show ∀ k_, w.heap.size ≤ k_ → (fun _ => True) k_ from fun k_ hk => trivial) _ (Nat.le_refl _)) (Below.refl _ _) (Nat.le_refl _) (by simp) ?_; (case hd => rfl); (case hg => rfl); (case hr => first | (go_simp; done) | (go_simp; rfl)); (case hp => exact (Reps.c5 (show Kd.FK k43 _ _ (⟨5, true, (⟨0, 0, ([] : List (S41))⟩ : S41)⟩ : S43) [.int .i64 5, .bool true, .int .i64 0, .int .i64 0, .slice none 0 0] from (k43_mkF _ _ (⟨5, true, (⟨0, 0, ([] : List (S41))⟩ : S41)⟩ : S43) (Nat.le_refl _) (Kd.F_nil _ _ _))) (Reps.none _ _))); intro v104 w100 ho101 hb hg_ hnew_; clear hg_ hnew_; (first | rw [← Ny103.out] at ho101 | (simp only [Int.reduceToNat] at ho101; rw [← Ny103.out] at ho101)); have n0_ := Aside0.mk (Kd.N_lower ho101 (below_size (by repeat (first | (with_reducible first | exact HB.out | apply below_alloc | apply pw_below_drewN | apply below_drew1) | exact HB.out)))); have n1_ := Aside0.mk (below_step (by repeat (first | (with_reducible first | exact HB.out | apply below_alloc | apply pw_below_drewN | apply below_drew1) | exact HB.out)) hb); clear HB; have HO105 := n0_; have HB := n1_; clear n0_ n1_; clear hb ho101; obtain ⟨Ao102, co102, eo102⟩ := Kd.N_slice HO105.out; subst eo102) | ((with_reducible refine gate_dst (N := 10) rfl ?_); (try (refine gate_guard (by rfl) ?_; dsimp only)); refine Kd.N_lit k43 _ 43 ?hg (N' := 10) ?hd (xs := ([(⟨5, false, (⟨0, 0, ([] : List (S41))⟩ : S41)⟩ : S43), (⟨1, true, (⟨0, 0, ([] : List (S41))⟩ : S41)⟩ : S43)] : List (S43))) (inner := [.int .i64 5, .bool false, .int .i64 0, .int .i64 0, .slice none 0 0, .int .i64 1, .bool true, .int .i64 0, .int .i64 0, .slice none 0 0]) (ok := (fun k_ => some k_ ≠ (.slice Ao102 y103.length co102 : Value).ownBlock)) (okp := (fun k_ => some k_ ≠ (.slice Ao102 y103.length co102 : Value).ownBlock)) ?hr ?hp (fun _ hk => hk) ((show ∀ k_, w100.heap.size ≤ k_ → (fun k_ => some k_ ≠ (.slice Ao102 y103.length co102 : Value).ownBlock) k_ from fun k_ hk => Kd.fresh' (Kd.N_lt (by (with_reducible repeat (first | apply Kd.N_alloc | apply Kd.N_drewN | apply Kd.N_drew)); exact HO105.out)) k_ hk) _ (Nat.le_refl _)) (Below.refl _ _) (Nat.le_refl _) (by simp) ?_; (case hd => rfl); (case hg => rfl); (case hr => first | (go_simp; done) | (go_simp; rfl)); (case hp => exact (Reps.c5 (show Kd.FK k43 _ _ (⟨5, false, (⟨0, 0, ([] : List (S41))⟩ : S41)⟩ : S43) [.int .i64 5, .bool false, .int .i64 0, .int .i64 0, .slice none 0 0] from (k43_mkF _ _ (⟨5, false, (⟨0, 0, ([] : List (S41))⟩ : S41)⟩ : S43) (Nat.le_refl _) (Kd.F_nil _ _ _))) (Reps.c5 (show Kd.FK k43 _ _ (⟨1, true, (⟨0, 0, ([] : List (S41))⟩ : S41)⟩ : S43) [.int .i64 1, .bool true, .int .i64 0, .int .i64 0, .slice none 0 0] from (k43_mkF _ _ (⟨1, true, (⟨0, 0, ([] : List (S41))⟩ : S41)⟩ : S43) (Nat.le_refl _) (Kd.F_nil _ _ _))) (Reps.none _ _)))); intro v107 w103 ho104 hb hg_ hnew_; clear hg_ hnew_; (first | rw [← Ny106.out] at ho104 | (simp only [Int.reduceToNat] at ho104; rw [← Ny106.out] at ho104)); have n0_ := Aside0.mk (Kd.N_elder' (by (with_reducible repeat (first | apply Kd.N_alloc | apply Kd.N_drewN | apply Kd.N_drew)); exact HO105.out) (Kd.N_base ho104) hb); have n1_ := Aside0.mk (Kd.N_lower ho104 (below_size (by repeat (first | (with_reducible first | exact HB.out | apply below_alloc | apply pw_below_drewN | apply below_drew1) | exact HB.out)))); have n2_ := Aside0.mk (below_step (by repeat (first | (with_reducible first | exact HB.out | apply below_alloc | apply pw_below_drewN | apply below_drew1) | exact HB.out)) hb); clear HO105; clear HB; have HO105 := n0_; have HO108 := n1_; have HB := n2_; clear n0_ n1_ n2_; clear hb ho104; obtain ⟨Ao105, co105, eo105⟩ := Kd.N_slice HO108.out; subst eo105) | ((with_reducible refine gate_dst (N := 14) rfl ?_); (try (refine gate_guard (by rfl) ?_; dsimp only)); refine Kd.N_lit k43 _ 43 ?hg (N' := 14) ?hd (xs := ([(⟨1, false, (⟨0, 0, ([] : List (S41))⟩ : S41)⟩ : S43), (⟨2, true, (⟨0, 0, ([] : List (S41))⟩ : S41)⟩ : S43)] : List (S43))) (inner := [.int .i64 1, .bool false, .int .i64 0, .int .i64 0, .slice none 0 0, .int .i64 2, .bool true, .int .i64 0, .int .i64 0, .slice none 0 0]) (ok := (fun k_ => some k_ ≠ (.slice Ao102 y103.length co102 : Value).ownBlock ∧ some k_ ≠ (.slice Ao105 y106.length co105 : Value).ownBlock)) (okp := (fun k_ => some k_ ≠ (.slice Ao102 y103.length co102 : Value).ownBlock ∧ some k_ ≠ (.slice Ao105 y106.length co105 : Value).ownBlock)) ?hr ?hp (fun _ hk => hk) ((show ∀ k_, w103.heap.size ≤ k_ → (fun k_ => some k_ ≠ (.slice Ao102 y103.length co102 : Value).ownBlock ∧ some k_ ≠ (.slice Ao105 y106.length co105 : Value).ownBlock) k_ from fun k_ hk => ⟨Kd.fresh' (Kd.N_lt (by (with_reducible repeat (first | apply Kd.N_alloc | apply Kd.N_drewN | apply Kd.N_drew)); exact HO105.out)) k_ hk, Kd.fresh' (Kd.N_lt (by (with_reducible repeat (first | apply Kd.N_alloc | apply Kd.N_drewN | apply Kd.N_drew)); exact HO108.out)) k_ hk⟩) _ (Nat.le_refl _)) (Below.refl _ _) (Nat.le_refl _) (by simp) ?_; (case hd => rfl); (case hg => rfl); (case hr => first | (go_simp; done) | (go_simp; rfl)); (case hp => exact (Reps.c5 (show Kd.FK k43 _ _ (⟨1, false, (⟨0, 0, ([] : List (S41))⟩ : S41)⟩ : S43) [.int .i64 1, .bool false, .int .i64 0, .int .i64 0, .slice none 0 0] from (k43_mkF _ _ (⟨1, false, (⟨0, 0, ([] : List (S41))⟩ : S41)⟩ : S43) (Nat.le_refl _) (Kd.F_nil _ _ _))) (Reps.c5 (show Kd.FK k43 _ _ (⟨2, true, (⟨0, 0, ([] : List (S41))⟩ : S41)⟩ : S43) [.int .i64 2, .bool true, .int .i64 0, .int .i64 0, .slice none 0 0] from (k43_mkF _ _ (⟨2, true, (⟨0, 0, ([] : List (S41))⟩ : S41)⟩ : S43) (Nat.le_refl _) (Kd.F_nil _ _ _))) (Reps.none _ _)))); intro v110 w106 ho107 hb hg_ hnew_; clear hg_ hnew_; (first | rw [← Ny109.out] at ho107 | (simp only [Int.reduceToNat] at ho107; rw [← Ny109.out] at ho107)); have n0_ := Aside0.mk (Kd.N_elder' (by (with_reducible repeat (first | apply Kd.N_alloc | apply Kd.N_drewN | apply Kd.N_drew)); exact HO105.out) (Kd.N_base ho107) hb); have n1_ := Aside0.mk (Kd.N_elder' (by (with_reducible repeat (first | apply Kd.N_alloc | apply Kd.N_drewN | apply Kd.N_drew)); exact HO108.out) (Kd.N_base ho107) hb); have n2_ := Aside0.mk (Kd.N_lower ho107 (below_size (by repeat (first | (with_reducible first | exact HB.out | apply below_alloc | apply pw_below_drewN | apply below_drew1) | exact HB.out)))); have n3_ := Aside0.mk (below_step (by repeat (first | (with_reducible first | exact HB.out | apply below_alloc | apply pw_below_drewN | apply below_drew1) | exact HB.out)) hb); clear HO105; clear HO108; clear HB; have HO105 := n0_; have HO108 := n1_; have HO111 := n2_; have HB := n3_; clear n0_ n1_ n2_ n3_; clear hb ho107; obtain ⟨Ao108, co108, eo108⟩ := Kd.N_slice HO111.out; subst eo108) | ((with_reducible refine gate_dst (N := 16) rfl ?_); (try (refine gate_guard (by rfl) ?_; dsimp only)); refine Kd.N_lit k38 _ 38 ?hg (N' := 16) ?hd (xs := ([(⟨2, y103⟩ : S38), (⟨4, y106⟩ : S38), (⟨7, y109⟩ : S38)] : List (S38))) (inner := [.int .i64 2, .slice Ao102 y103.length co102, .int .i64 4, .slice Ao105 y106.length co105, .int .i64 7, .slice Ao108 y109.length co108]) (ok := (fun _ => True)) (okp := (fun _ => True)) ?hr ?hp (fun _ hk => hk) ((show ∀ k_, w106.heap.size ≤ k_ → (fun _ => True) k_ from fun k_ hk => trivial) _ (Nat.le_refl _)) (Below.refl _ _) (Nat.le_refl _) (by simp) ?_; (case hd => rfl); (case hg => rfl); (case hr => first | (go_simp; done) | (go_simp; rfl)); (case hp => exact (Reps.c2 (show Kd.FK k38 _ _ (⟨2, y103⟩ : S38) [.int .i64 2, .slice Ao102 y103.length co102] from (k38_mkF _ _ (⟨2, y103⟩ : S38) (Kd.N_reads' (Kd.N_mono (ok' := (fun _ => True)) (HO105.out) (fun k_ hk => trivial))).2.1 (Kd.N_F (Kd.N_mono (ok' := (fun _ => True)) (HO105.out) (fun k_ hk => trivial))))) (Reps.c2 (show Kd.FK k38 _ _ (⟨4, y106⟩ : S38) [.int .i64 4, .slice Ao105 y106.length co105] from (k38_mkF _ _ (⟨4, y106⟩ : S38) (Kd.N_reads' (Kd.N_mono (ok' := (fun _ => True)) (HO108.out) (fun k_ hk => trivial))).2.1 (Kd.N_F (Kd.N_mono (ok' := (fun _ => True)) (HO108.out) (fun k_ hk => trivial))))) (Reps.c2 (show Kd.FK k38 _ _ (⟨7, y109⟩ : S38) [.int .i64 7, .slice Ao108 y109.length co108] from (k38_mkF _ _ (⟨7, y109⟩ : S38) (Kd.N_reads' (Kd.N_mono (ok' := (fun _ => True)) (HO111.out) (fun k_ hk => trivial))).2.1 (Kd.N_F (Kd.N_mono (ok' := (fun _ => True)) (HO111.out) (fun k_ hk => trivial))))) (Reps.none _ _))))); intro v113 w109 ho110 hb hg_ hnew_; clear hg_ hnew_; (first | rw [← Ny112.out] at ho110 | (simp only [Int.reduceToNat] at ho110; rw [← Ny112.out] at ho110)); have n0_ := Aside0.mk (Kd.N_lower ho110 (below_size (by repeat (first | (with_reducible first | exact HB.out | apply below_alloc | apply pw_below_drewN | apply below_drew1) | exact HB.out)))); have n1_ := Aside0.mk (below_step (by repeat (first | (with_reducible first | exact HB.out | apply below_alloc | apply pw_below_drewN | apply below_drew1) | exact HB.out)) hb); clear HB; clear HO105; clear HO108; clear HO111; have HO114 := n0_; have HB := n1_; clear n0_ n1_; clear hb ho110; obtain ⟨Ao111, co111, eo111⟩ := Kd.N_slice HO114.out; subst eo111) | ((with_reducible refine gate_callee (f := 10) rfl ?_); refine goesL_ (some 18) rfl rfl Try.func10 (by kernel_rfl) rfl #[.slice Ao111 y112.length co111] rfl (by (try simp only [List.map_toArray, List.map_cons, List.map_nil]); first | done | rfl | (simp only [List.length_drop, List.length_take]; rfl)) ?_; (with_reducible refine (post_Pairs.calls _ _ y112 t115 _ ?side1 ?side2 A1.out).mono ?_); (case side1 => repeat (first | exact (Kd.N_reads' HO114.out).2.2 | (with_reducible refine Kd.C_alloc ?_ _) | (with_reducible refine Kd.C_drewN ?_ _) | (with_reducible refine Kd.C_drew ?_))); (case side2 => exact (Kd.N_reads' HO114.out).2.1); rintro e w112 ⟨v116, rfl, ho0, hb⟩; refine ⟨_, rfl, ?_⟩; have n0_ := Aside0.mk (Kd.N_elder' (by (with_reducible repeat (first | apply Kd.N_alloc | apply Kd.N_drewN | apply Kd.N_drew)); exact HO114.out) (Kd.R_base ho0) hb); have n1_ := Aside0.mk (Kd.R_lower ho0 (below_size (by repeat (first | (with_reducible first | exact HB.out | apply below_alloc | apply pw_below_drewN | apply below_drew1) | exact HB.out)))); have n2_ := Aside0.mk (below_step (by repeat (first | (with_reducible first | exact HB.out | apply below_alloc | apply pw_below_drewN | apply below_drew1) | exact HB.out)) hb); clear HO114; clear HB; have HO114 := n0_; have HO117 := n1_; have HB := n2_; clear n0_ n1_ n2_; (try clear hb); (try clear hb2); (try clear hk); (try clear hi); (try clear ho0)) | ((with_reducible refine gate_callee (f := 12) rfl ?_); refine goesL_ (some 20) rfl rfl Try.func12 (by kernel_rfl) rfl #[.slice Ao111 y112.length co111] rfl (by (try simp only [List.map_toArray, List.map_cons, List.map_nil]); first | done | rfl | (simp only [List.length_drop, List.length_take]; rfl)) ?_; (with_reducible refine (post_Ins.calls _ _ y112 t118 _ ?side1 ?side2 A2.out).mono ?_); (case side1 => repeat (first | exact (Kd.N_reads' HO114.out).2.2 | (with_reducible refine Kd.C_alloc ?_ _) | (with_reducible refine Kd.C_drewN ?_ _) | (with_reducible refine Kd.C_drew ?_))); (case side2 => exact (Kd.N_reads' HO114.out).2.1); rintro e w113 ⟨v119, rfl, ho0, hb⟩; refine ⟨_, rfl, ?_⟩; have n0_ := Aside0.mk (Kd.N_elder' (by (with_reducible repeat (first | apply Kd.N_alloc | apply Kd.N_drewN | apply Kd.N_drew)); exact HO114.out) (Kd.R_base ho0) hb); have n1_ := Aside0.mk (Kd.R_elder' (by (with_reducible repeat (first | apply Kd.R_alloc | apply Kd.R_drewN | apply Kd.R_drew)); exact HO117.out) (Kd.R_base ho0) hb); have n2_ := Aside0.mk (Kd.R_lower (Kd.R_new' ho0 (Kd.R_lt (by (with_reducible repeat (first | apply Kd.R_alloc | apply Kd.R_drewN | apply Kd.R_drew)); exact HO117.out))) (below_size (by repeat (first | (with_reducible first | exact HB.out | apply below_alloc | apply pw_below_drewN | apply below_drew1) | exact HB.out)))); have n3_ := Aside0.mk (below_step (by repeat (first | (with_reducible first | exact HB.out | apply below_alloc | apply pw_below_drewN | apply below_drew1) | exact HB.out)) hb); clear HO114; clear HO117; clear HB; have HO114 := n0_; have HO117 := n1_; have HO120 := n2_; have HB := n3_; clear n0_ n1_ n2_ n3_; (try clear hb); (try clear hb2); (try clear hk); (try clear hi); (try clear ho0)) | ((with_reducible refine gate_callee (f := 14) rfl ?_); refine goesL_ (some 22) rfl rfl Try.func14 (by kernel_rfl) rfl #[.slice Ao111 y112.length co111] rfl (by (try simp only [List.map_toArray, List.map_cons, List.map_nil]); first | done | rfl | (simp only [List.length_drop, List.length_take]; rfl)) ?_; (with_reducible refine (post_Outs.calls _ _ y112 t121 _ ?side1 ?side2 A3.out).mono ?_); (case side1 => repeat (first | exact (Kd.N_reads' HO114.out).2.2 | (with_reducible refine Kd.C_alloc ?_ _) | (with_reducible refine Kd.C_drewN ?_ _) | (with_reducible refine Kd.C_drew ?_))); (case side2 => exact (Kd.N_reads' HO114.out).2.1); rintro e w114 ⟨v122, rfl, ho0, hb⟩; refine ⟨_, rfl, ?_⟩; have n0_ := Aside0.mk (Kd.N_elder' (by (with_reducible repeat (first | apply Kd.N_alloc | apply Kd.N_drewN | apply Kd.N_drew)); exact HO114.out) (Kd.R_base ho0) hb); have n1_ := Aside0.mk (Kd.R_elder' (by (with_reducible repeat (first | apply Kd.R_alloc | apply Kd.R_drewN | apply Kd.R_drew)); exact HO117.out) (Kd.R_base ho0) hb); have n2_ := Aside0.mk (Kd.R_elder' (by (with_reducible repeat (first | apply Kd.R_alloc | apply Kd.R_drewN | apply Kd.R_drew)); exact HO120.out) (Kd.R_base ho0) hb); have n3_ := Aside0.mk (Kd.R_lower (Kd.R_new' (Kd.R_new' ho0 (Kd.R_lt (by (with_reducible repeat (first | apply Kd.R_alloc | apply Kd.R_drewN | apply Kd.R_drew)); exact HO117.out))) (Kd.R_lt (by (with_reducible repeat (first | apply Kd.R_alloc | apply Kd.R_drewN | apply Kd.R_drew)); exact HO120.out))) (below_size (by repeat (first | (with_reducible first | exact HB.out | apply below_alloc | apply pw_below_drewN | apply below_drew1) | exact HB.out)))); have n4_ := Aside0.mk (below_step (by repeat (first | (with_reducible first | exact HB.out | apply below_alloc | apply pw_below_drewN | apply below_drew1) | exact HB.out)) hb); clear HO114; clear HO117; clear HO120; clear HB; have HO114 := n0_; have HO117 := n1_; have HO120 := n2_; have HO123 := n3_; have HB := n4_; clear n0_ n1_ n2_ n3_ n4_; (try clear hb); (try clear hb2); (try clear hk); (try clear hi); (try clear ho0); obtain ⟨Ao115, co115, eo115⟩ := Kd.R_slice HO117.out; subst eo115; have p124 : 0 ≤ (0 : Int) := (by omega); have q124 : 0 < (t115.length : Int) := of_decide_eq_true (by first | (with_reducible assumption) | assumption); obtain ⟨ad124, e124, hx124_0, hx124_1, hx124_2, hx124_3, hx124_4⟩ := at_T47 (Kd.R_reads' HO117.out).2.2 0 p124 q124; cases e124; have qi124 : (0 < t115.length) = True := eq_true (by omega); (try rw [show ((0 : Int)).toNat = 0 from rfl] at hx124_0); (try rw [show 0 * 5 = 0 from rfl] at hx124_0); (try rw [Addr.add_zero'] at hx124_0); (try rw [show ((0 : Int)).toNat = 0 from rfl] at hx124_1); (try rw [show 0 * 5 = 0 from rfl] at hx124_1); (try rw [Addr.add_zero'] at hx124_1); (try rw [show ((0 : Int)).toNat = 0 from rfl] at hx124_2); (try rw [show 0 * 5 = 0 from rfl] at hx124_2); (try rw [Addr.add_zero'] at hx124_2); (try rw [show ((0 : Int)).toNat = 0 from rfl] at hx124_3); (try rw [show 0 * 5 = 0 from rfl] at hx124_3); (try rw [Addr.add_zero'] at hx124_3); (try rw [show ((0 : Int)).toNat = 0 from rfl] at hx124_4); (try rw [show 0 * 5 = 0 from rfl] at hx124_4); (try rw [Addr.add_zero'] at hx124_4); replace p124 := eq_true p124; replace q124 := eq_true q124))
        go_ret
        exact ⟨by first | rfl | (simp [errW_none, errW_some] <;> rfl) | (simp [*, errW_none, errW_some] <;> rfl), by repeat (first | (with_reducible first | exact HB.out | apply below_alloc | apply pw_below_drewN | apply below_drew1) | exact HB.out)⟩
    · rw [if_neg c5] at H
      exact absurd H (by simp)
  · rw [if_neg c4] at H
    have c4b0 : ((t115.length : Int) == 2) = false := beq_eq_false_iff_ne.mpr c4
    have c4b1 : ((t115.length : Int) != 2) = true := bne_iff_ne.mpr c4
    obtain rfl := Option.some.inj H
    go_enter Try.func6, Try.ntmps6
    go_wp2_with (first | ((with_reducible refine gate_dst (N := 6) rfl ?_); (try (refine gate_guard (by rfl) ?_; dsimp only)); refine Kd.N_lit k43 _ 43 ?hg (N' := 6) ?hd (xs := ([(⟨5, true, (⟨0, 0, ([] : List (S41))⟩ : S41)⟩ : S43)] : List (S43))) (inner := [.int .i64 5, .bool true, .int .i64 0, .int .i64 0, .slice none 0 0]) (ok := (fun _ => True)) (okp := (fun _ => True)) ?hr ?hp (fun _ hk => hk) ((show ∀ k_, w.heap.size ≤ k_ → (fun _ => True) k_ from fun k_ hk => trivial) _ (Nat.le_refl _)) (Below.refl _ _) (Nat.le_refl _) (by simp) ?_; (case hd => rfl); (case hg => rfl); (case hr => first | (go_simp; done) | (go_simp; rfl)); (case hp => exact (Reps.c5 (show Kd.FK k43 _ _ (⟨5, true, (⟨0, 0, ([] : List (S41))⟩ : S41)⟩ : S43) [.int .i64 5, .bool true, .int .i64 0, .int .i64 0, .slice none 0 0] from (k43_mkF _ _ (⟨5, true, (⟨0, 0, ([] : List (S41))⟩ : S41)⟩ : S43) (Nat.le_refl _) (Kd.F_nil _ _ _))) (Reps.none _ _))); intro v104 w116 ho117 hb hg_ hnew_; clear hg_ hnew_; (first | rw [← Ny103.out] at ho117 | (simp only [Int.reduceToNat] at ho117; rw [← Ny103.out] at ho117)); have n0_ := Aside0.mk (Kd.N_lower ho117 (below_size (by repeat (first | (with_reducible first | exact HB.out | apply below_alloc | apply pw_below_drewN | apply below_drew1) | exact HB.out)))); have n1_ := Aside0.mk (below_step (by repeat (first | (with_reducible first | exact HB.out | apply below_alloc | apply pw_below_drewN | apply below_drew1) | exact HB.out)) hb); clear HB; have HO105 := n0_; have HB := n1_; clear n0_ n1_; clear hb ho117; obtain ⟨Ao118, co118, eo118⟩ := Kd.N_slice HO105.out; subst eo118) | ((with_reducible refine gate_dst (N := 10) rfl ?_); (try (refine gate_guard (by rfl) ?_; dsimp only)); refine Kd.N_lit k43 _ 43 ?hg (N' := 10) ?hd (xs := ([(⟨5, false, (⟨0, 0, ([] : List (S41))⟩ : S41)⟩ : S43), (⟨1, true, (⟨0, 0, ([] : List (S41))⟩ : S41)⟩ : S43)] : List (S43))) (inner := [.int .i64 5, .bool false, .int .i64 0, .int .i64 0, .slice none 0 0, .int .i64 1, .bool true, .int .i64 0, .int .i64 0, .slice none 0 0]) (ok := (fun k_ => some k_ ≠ (.slice Ao118 y103.length co118 : Value).ownBlock)) (okp := (fun k_ => some k_ ≠ (.slice Ao118 y103.length co118 : Value).ownBlock)) ?hr ?hp (fun _ hk => hk) ((show ∀ k_, w116.heap.size ≤ k_ → (fun k_ => some k_ ≠ (.slice Ao118 y103.length co118 : Value).ownBlock) k_ from fun k_ hk => Kd.fresh' (Kd.N_lt (by (with_reducible repeat (first | apply Kd.N_alloc | apply Kd.N_drewN | apply Kd.N_drew)); exact HO105.out)) k_ hk) _ (Nat.le_refl _)) (Below.refl _ _) (Nat.le_refl _) (by simp) ?_; (case hd => rfl); (case hg => rfl); (case hr => first | (go_simp; done) | (go_simp; rfl)); (case hp => exact (Reps.c5 (show Kd.FK k43 _ _ (⟨5, false, (⟨0, 0, ([] : List (S41))⟩ : S41)⟩ : S43) [.int .i64 5, .bool false, .int .i64 0, .int .i64 0, .slice none 0 0] from (k43_mkF _ _ (⟨5, false, (⟨0, 0, ([] : List (S41))⟩ : S41)⟩ : S43) (Nat.le_refl _) (Kd.F_nil _ _ _))) (Reps.c5 (show Kd.FK k43 _ _ (⟨1, true, (⟨0, 0, ([] : List (S41))⟩ : S41)⟩ : S43) [.int .i64 1, .bool true, .int .i64 0, .int .i64 0, .slice none 0 0] from (k43_mkF _ _ (⟨1, true, (⟨0, 0, ([] : List (S41))⟩ : S41)⟩ : S43) (Nat.le_refl _) (Kd.F_nil _ _ _))) (Reps.none _ _)))); intro v107 w119 ho120 hb hg_ hnew_; clear hg_ hnew_; (first | rw [← Ny106.out] at ho120 | (simp only [Int.reduceToNat] at ho120; rw [← Ny106.out] at ho120)); have n0_ := Aside0.mk (Kd.N_elder' (by (with_reducible repeat (first | apply Kd.N_alloc | apply Kd.N_drewN | apply Kd.N_drew)); exact HO105.out) (Kd.N_base ho120) hb); have n1_ := Aside0.mk (Kd.N_lower ho120 (below_size (by repeat (first | (with_reducible first | exact HB.out | apply below_alloc | apply pw_below_drewN | apply below_drew1) | exact HB.out)))); have n2_ := Aside0.mk (below_step (by repeat (first | (with_reducible first | exact HB.out | apply below_alloc | apply pw_below_drewN | apply below_drew1) | exact HB.out)) hb); clear HO105; clear HB; have HO105 := n0_; have HO108 := n1_; have HB := n2_; clear n0_ n1_ n2_; clear hb ho120; obtain ⟨Ao121, co121, eo121⟩ := Kd.N_slice HO108.out; subst eo121) | ((with_reducible refine gate_dst (N := 14) rfl ?_); (try (refine gate_guard (by rfl) ?_; dsimp only)); refine Kd.N_lit k43 _ 43 ?hg (N' := 14) ?hd (xs := ([(⟨1, false, (⟨0, 0, ([] : List (S41))⟩ : S41)⟩ : S43), (⟨2, true, (⟨0, 0, ([] : List (S41))⟩ : S41)⟩ : S43)] : List (S43))) (inner := [.int .i64 1, .bool false, .int .i64 0, .int .i64 0, .slice none 0 0, .int .i64 2, .bool true, .int .i64 0, .int .i64 0, .slice none 0 0]) (ok := (fun k_ => some k_ ≠ (.slice Ao118 y103.length co118 : Value).ownBlock ∧ some k_ ≠ (.slice Ao121 y106.length co121 : Value).ownBlock)) (okp := (fun k_ => some k_ ≠ (.slice Ao118 y103.length co118 : Value).ownBlock ∧ some k_ ≠ (.slice Ao121 y106.length co121 : Value).ownBlock)) ?hr ?hp (fun _ hk => hk) ((show ∀ k_, w119.heap.size ≤ k_ → (fun k_ => some k_ ≠ (.slice Ao118 y103.length co118 : Value).ownBlock ∧ some k_ ≠ (.slice Ao121 y106.length co121 : Value).ownBlock) k_ from fun k_ hk => ⟨Kd.fresh' (Kd.N_lt (by (with_reducible repeat (first | apply Kd.N_alloc | apply Kd.N_drewN | apply Kd.N_drew)); exact HO105.out)) k_ hk, Kd.fresh' (Kd.N_lt (by (with_reducible repeat (first | apply Kd.N_alloc | apply Kd.N_drewN | apply Kd.N_drew)); exact HO108.out)) k_ hk⟩) _ (Nat.le_refl _)) (Below.refl _ _) (Nat.le_refl _) (by simp) ?_; (case hd => rfl); (case hg => rfl); (case hr => first | (go_simp; done) | (go_simp; rfl)); (case hp => exact (Reps.c5 (show Kd.FK k43 _ _ (⟨1, false, (⟨0, 0, ([] : List (S41))⟩ : S41)⟩ : S43) [.int .i64 1, .bool false, .int .i64 0, .int .i64 0, .slice none 0 0] from (k43_mkF _ _ (⟨1, false, (⟨0, 0, ([] : List (S41))⟩ : S41)⟩ : S43) (Nat.le_refl _) (Kd.F_nil _ _ _))) (Reps.c5 (show Kd.FK k43 _ _ (⟨2, true, (⟨0, 0, ([] : List (S41))⟩ : S41)⟩ : S43) [.int .i64 2, .bool true, .int .i64 0, .int .i64 0, .slice none 0 0] from (k43_mkF _ _ (⟨2, true, (⟨0, 0, ([] : List (S41))⟩ : S41)⟩ : S43) (Nat.le_refl _) (Kd.F_nil _ _ _))) (Reps.none _ _)))); intro v110 w122 ho123 hb hg_ hnew_; clear hg_ hnew_; (first | rw [← Ny109.out] at ho123 | (simp only [Int.reduceToNat] at ho123; rw [← Ny109.out] at ho123)); have n0_ := Aside0.mk (Kd.N_elder' (by (with_reducible repeat (first | apply Kd.N_alloc | apply Kd.N_drewN | apply Kd.N_drew)); exact HO105.out) (Kd.N_base ho123) hb); have n1_ := Aside0.mk (Kd.N_elder' (by (with_reducible repeat (first | apply Kd.N_alloc | apply Kd.N_drewN | apply Kd.N_drew)); exact HO108.out) (Kd.N_base ho123) hb); have n2_ := Aside0.mk (Kd.N_lower ho123 (below_size (by repeat (first | (with_reducible first | exact HB.out | apply below_alloc | apply pw_below_drewN | apply below_drew1) | exact HB.out)))); have n3_ := Aside0.mk (below_step (by repeat (first | (with_reducible first | exact HB.out | apply below_alloc | apply pw_below_drewN | apply below_drew1) | exact HB.out)) hb); clear HO105; clear HO108; clear HB; have HO105 := n0_; have HO108 := n1_; have HO111 := n2_; have HB := n3_; clear n0_ n1_ n2_ n3_; clear hb ho123; obtain ⟨Ao124, co124, eo124⟩ := Kd.N_slice HO111.out; subst eo124) | ((with_reducible refine gate_dst (N := 16) rfl ?_); (try (refine gate_guard (by rfl) ?_; dsimp only)); refine Kd.N_lit k38 _ 38 ?hg (N' := 16) ?hd (xs := ([(⟨2, y103⟩ : S38), (⟨4, y106⟩ : S38), (⟨7, y109⟩ : S38)] : List (S38))) (inner := [.int .i64 2, .slice Ao118 y103.length co118, .int .i64 4, .slice Ao121 y106.length co121, .int .i64 7, .slice Ao124 y109.length co124]) (ok := (fun _ => True)) (okp := (fun _ => True)) ?hr ?hp (fun _ hk => hk) ((show ∀ k_, w122.heap.size ≤ k_ → (fun _ => True) k_ from fun k_ hk => trivial) _ (Nat.le_refl _)) (Below.refl _ _) (Nat.le_refl _) (by simp) ?_; (case hd => rfl); (case hg => rfl); (case hr => first | (go_simp; done) | (go_simp; rfl)); (case hp => exact (Reps.c2 (show Kd.FK k38 _ _ (⟨2, y103⟩ : S38) [.int .i64 2, .slice Ao118 y103.length co118] from (k38_mkF _ _ (⟨2, y103⟩ : S38) (Kd.N_reads' (Kd.N_mono (ok' := (fun _ => True)) (HO105.out) (fun k_ hk => trivial))).2.1 (Kd.N_F (Kd.N_mono (ok' := (fun _ => True)) (HO105.out) (fun k_ hk => trivial))))) (Reps.c2 (show Kd.FK k38 _ _ (⟨4, y106⟩ : S38) [.int .i64 4, .slice Ao121 y106.length co121] from (k38_mkF _ _ (⟨4, y106⟩ : S38) (Kd.N_reads' (Kd.N_mono (ok' := (fun _ => True)) (HO108.out) (fun k_ hk => trivial))).2.1 (Kd.N_F (Kd.N_mono (ok' := (fun _ => True)) (HO108.out) (fun k_ hk => trivial))))) (Reps.c2 (show Kd.FK k38 _ _ (⟨7, y109⟩ : S38) [.int .i64 7, .slice Ao124 y109.length co124] from (k38_mkF _ _ (⟨7, y109⟩ : S38) (Kd.N_reads' (Kd.N_mono (ok' := (fun _ => True)) (HO111.out) (fun k_ hk => trivial))).2.1 (Kd.N_F (Kd.N_mono (ok' := (fun _ => True)) (HO111.out) (fun k_ hk => trivial))))) (Reps.none _ _))))); intro v113 w125 ho126 hb hg_ hnew_; clear hg_ hnew_; (first | rw [← Ny112.out] at ho126 | (simp only [Int.reduceToNat] at ho126; rw [← Ny112.out] at ho126)); have n0_ := Aside0.mk (Kd.N_lower ho126 (below_size (by repeat (first | (with_reducible first | exact HB.out | apply below_alloc | apply pw_below_drewN | apply below_drew1) | exact HB.out)))); have n1_ := Aside0.mk (below_step (by repeat (first | (with_reducible first | exact HB.out | apply below_alloc | apply pw_below_drewN | apply below_drew1) | exact HB.out)) hb); clear HB; clear HO105; clear HO108; clear HO111; have HO114 := n0_; have HB := n1_; clear n0_ n1_; clear hb ho126; obtain ⟨Ao127, co127, eo127⟩ := Kd.N_slice HO114.out; subst eo127) | ((with_reducible refine gate_callee (f := 10) rfl ?_); refine goesL_ (some 18) rfl rfl Try.func10 (by kernel_rfl) rfl #[.slice Ao127 y112.length co127] rfl (by (try simp only [List.map_toArray, List.map_cons, List.map_nil]); first | done | rfl | (simp only [List.length_drop, List.length_take]; rfl)) ?_; (with_reducible refine (post_Pairs.calls _ _ y112 t115 _ ?side1 ?side2 A1.out).mono ?_); (case side1 => repeat (first | exact (Kd.N_reads' HO114.out).2.2 | (with_reducible refine Kd.C_alloc ?_ _) | (with_reducible refine Kd.C_drewN ?_ _) | (with_reducible refine Kd.C_drew ?_))); (case side2 => exact (Kd.N_reads' HO114.out).2.1); rintro e w128 ⟨v116, rfl, ho0, hb⟩; refine ⟨_, rfl, ?_⟩; have n0_ := Aside0.mk (Kd.N_elder' (by (with_reducible repeat (first | apply Kd.N_alloc | apply Kd.N_drewN | apply Kd.N_drew)); exact HO114.out) (Kd.R_base ho0) hb); have n1_ := Aside0.mk (Kd.R_lower ho0 (below_size (by repeat (first | (with_reducible first | exact HB.out | apply below_alloc | apply pw_below_drewN | apply below_drew1) | exact HB.out)))); have n2_ := Aside0.mk (below_step (by repeat (first | (with_reducible first | exact HB.out | apply below_alloc | apply pw_below_drewN | apply below_drew1) | exact HB.out)) hb); clear HO114; clear HB; have HO114 := n0_; have HO117 := n1_; have HB := n2_; clear n0_ n1_ n2_; (try clear hb); (try clear hb2); (try clear hk); (try clear hi); (try clear ho0)) | ((with_reducible refine gate_callee (f := 12) rfl ?_); refine goesL_ (some 20) rfl rfl Try.func12 (by kernel_rfl) rfl #[.slice Ao127 y112.length co127] rfl (by (try simp only [List.map_toArray, List.map_cons, List.map_nil]); first | done | rfl | (simp only [List.length_drop, List.length_take]; rfl)) ?_; (with_reducible refine (post_Ins.calls _ _ y112 t118 _ ?side1 ?side2 A2.out).mono ?_); (case side1 => repeat (first | exact (Kd.N_reads' HO114.out).2.2 | (with_reducible refine Kd.C_alloc ?_ _) | (with_reducible refine Kd.C_drewN ?_ _) | (with_reducible refine Kd.C_drew ?_))); (case side2 => exact (Kd.N_reads' HO114.out).2.1); rintro e w129 ⟨v119, rfl, ho0, hb⟩; refine ⟨_, rfl, ?_⟩; have n0_ := Aside0.mk (Kd.N_elder' (by (with_reducible repeat (first | apply Kd.N_alloc | apply Kd.N_drewN | apply Kd.N_drew)); exact HO114.out) (Kd.R_base ho0) hb); have n1_ := Aside0.mk (Kd.R_elder' (by (with_reducible repeat (first | apply Kd.R_alloc | apply Kd.R_drewN | apply Kd.R_drew)); exact HO117.out) (Kd.R_base ho0) hb); have n2_ := Aside0.mk (Kd.R_lower (Kd.R_new' ho0 (Kd.R_lt (by (with_reducible repeat (first | apply Kd.R_alloc | apply Kd.R_drewN | apply Kd.R_drew)); exact HO117.out))) (below_size (by repeat (first | (with_reducible first | exact HB.out | apply below_alloc | apply pw_below_drewN | apply below_drew1) | exact HB.out)))); have n3_ := Aside0.mk (below_step (by repeat (first | (with_reducible first | exact HB.out | apply below_alloc | apply pw_below_drewN | apply below_drew1) | exact HB.out)) hb); clear HO114; clear HO117; clear HB; have HO114 := n0_; have HO117 := n1_; have HO120 := n2_; have HB := n3_; clear n0_ n1_ n2_ n3_; (try clear hb); (try clear hb2); (try clear hk); (try clear hi); (try clear ho0)) | ((with_reducible refine gate_callee (f := 14) rfl ?_); refine goesL_ (some 22) rfl rfl Try.func14 (by kernel_rfl) rfl #[.slice Ao127 y112.length co127] rfl (by (try simp only [List.map_toArray, List.map_cons, List.map_nil]); first | done | rfl | (simp only [List.length_drop, List.length_take]; rfl)) ?_; (with_reducible refine (post_Outs.calls _ _ y112 t121 _ ?side1 ?side2 A3.out).mono ?_); (case side1 => repeat (first | exact (Kd.N_reads' HO114.out).2.2 | (with_reducible refine Kd.C_alloc ?_ _) | (with_reducible refine Kd.C_drewN ?_ _) | (with_reducible refine Kd.C_drew ?_))); (case side2 => exact (Kd.N_reads' HO114.out).2.1); rintro e w130 ⟨v122, rfl, ho0, hb⟩; refine ⟨_, rfl, ?_⟩; have n0_ := Aside0.mk (Kd.N_elder' (by (with_reducible repeat (first | apply Kd.N_alloc | apply Kd.N_drewN | apply Kd.N_drew)); exact HO114.out) (Kd.R_base ho0) hb); have n1_ := Aside0.mk (Kd.R_elder' (by (with_reducible repeat (first | apply Kd.R_alloc | apply Kd.R_drewN | apply Kd.R_drew)); exact HO117.out) (Kd.R_base ho0) hb); have n2_ := Aside0.mk (Kd.R_elder' (by (with_reducible repeat (first | apply Kd.R_alloc | apply Kd.R_drewN | apply Kd.R_drew)); exact HO120.out) (Kd.R_base ho0) hb); have n3_ := Aside0.mk (Kd.R_lower (Kd.R_new' (Kd.R_new' ho0 (Kd.R_lt (by (with_reducible repeat (first | apply Kd.R_alloc | apply Kd.R_drewN | apply Kd.R_drew)); exact HO117.out))) (Kd.R_lt (by (with_reducible repeat (first | apply Kd.R_alloc | apply Kd.R_drewN | apply Kd.R_drew)); exact HO120.out))) (below_size (by repeat (first | (with_reducible first | exact HB.out | apply below_alloc | apply pw_below_drewN | apply below_drew1) | exact HB.out)))); have n4_ := Aside0.mk (below_step (by repeat (first | (with_reducible first | exact HB.out | apply below_alloc | apply pw_below_drewN | apply below_drew1) | exact HB.out)) hb); clear HO114; clear HO117; clear HO120; clear HB; have HO114 := n0_; have HO117 := n1_; have HO120 := n2_; have HO123 := n3_; have HB := n4_; clear n0_ n1_ n2_ n3_ n4_; (try clear hb); (try clear hb2); (try clear hk); (try clear hi); (try clear ho0); obtain ⟨Ao131, co131, eo131⟩ := Kd.R_slice HO117.out; subst eo131))
    go_ret
    exact ⟨by first | rfl | (simp [errW_none, errW_some] <;> rfl) | (simp [*, errW_none, errW_some] <;> rfl), by repeat (first | (with_reducible first | exact HB.out | apply below_alloc | apply pw_below_drewN | apply below_drew1) | exact HB.out)⟩
mutual
def squintlaw13_beyond.l0 : Nat → List (S38) → Int → Int → Option (Bool)
  | 0, _, _, _ => none
  | k + 1, x0, x3, x4 => if x4 < (x0.length : Int) then (squintlaw13_beyond.j1 k x0 x3 x4 (decide (x3 ≤ 4000))) else (squintlaw13_beyond.j1 k x0 x3 x4 false)
def squintlaw13_beyond.j1 : Nat → List (S38) → Int → Int → Bool → Option (Bool)
  | 0, _, _, _, _ => none
  | k + 1, x0, x3, x4, x14 => if x14 = true then (if 0 ≤ x4 then (if x4 < (x0.length : Int) then (if (((rd_T38 x0 x4).f1).length : Int) > 4000 then (some true) else (squintlaw13_beyond.l0 k x0 (wrap64 (x3 + (((rd_T38 x0 x4).f1).length : Int))) (wrap64 (x4 + 1)))) else (none)) else (none)) else (some (decide (x3 > 4000)))
end
def squintlaw13_beyond.f (k : Nat) (l0 : List (S38)) : Option (Bool) := squintlaw13_beyond.l0 k l0 (l0.length : Int) 0
set_option maxHeartbeats 8000000 in
set_option maxRecDepth 100000 in
theorem squintlaw13_beyond.calls (k : Nat) (A0 : Option Addr) (c0 : Nat) (l0 : List (S38)) (r : Bool) (w : World) (hr0 : Kd.C k38 w A0 l0.length l0) (hc0 : l0.length ≤ c0) (h : squintlaw13_beyond.f k l0 = some r) :
    Calls Try.prog 7 #[.slice A0 l0.length c0] w fun e w' => e = .returned (.bool r) ∧ Drawn0 w w' := by
  have HR0 := Aside0.mk hr0
  have HC0 := Aside0.mk hc0
  clear hr0 hc0
  have H : (squintlaw13_beyond.l0 k l0 (l0.length : Int) 0) = some r := h
  clear h
  have H' := Aside0.mk H
  clear H
  go_enter Try.func7, Try.ntmps7
  go_wp2
  go_loopg [3, 4] k (fun kq v3 v4 w' => ∃ (x3_1 : Int) (x4_1 : Int), v3 = .int .i64 x3_1 ∧ v4 = .int .i64 x4_1 ∧ Aside0 (squintlaw13_beyond.l0 kq l0 x3_1 x4_1 = some r) ∧ Aside0 (kq ≤ k) ∧ Drawn0 w w')
  case atStart => exact ⟨((l0.length : Int)), (0), (by first | rfl | (simp; done) | (simp [*]; done)), (by first | rfl | (simp; done) | (simp [*]; done)), H', ⟨Nat.le_refl _⟩, by repeat (first | exact Drawn0.refl _ | apply Drawn0.step)⟩
  case round =>
    clear H'
    obtain ⟨x3_1, x4_1, rfl, rfl, HA, HK1, ⟨m1, rfl⟩⟩ := hrel
    cases gk with
    | zero => exact absurd HA.out (by simp [squintlaw13_beyond.l0])
    | succ k1 =>
      have H := HA.out
      clear HA
      simp only [squintlaw13_beyond.l0] at H
      have HC2 := Aside0.mk H
      clear H
      go_upto_region 3 with (fail)
      go_cut [14] (fun v14 wc => ∃ (kq : Nat) (x14_1 : Bool), v14 = .bool x14_1 ∧ Aside0 (squintlaw13_beyond.j1 kq l0 x3_1 x4_1 x14_1 = some r) ∧ Aside0 (kq ≤ k1) ∧ Drawn0 w wc)
      case first =>
        have H := HC2.out
        clear HC2
        by_cases c3 : x4_1 < (l0.length : Int)
        · rw [if_pos c3] at H
          have c3b0 : decide (x4_1 < (l0.length : Int)) = true := decide_eq_true c3
          clear c3
          (first | rw [c3b0] | (simp only [i64_w, i32_w]; rw [c3b0]) | skip)
          have H' := Aside0.mk H
          clear H
          go_wp2
          go_meet
          case rel => exact ⟨_, (decide (x3_1 ≤ 4000)), (by first | rfl | (simp; done) | (simp [*]; done)), H', ⟨by have := HK1.out; first | omega | exact Nat.le_refl _⟩, by repeat (first | exact Drawn0.refl _ | apply Drawn0.step)⟩
        · rw [if_neg c3] at H
          have c3b0 : decide (x4_1 < (l0.length : Int)) = false := decide_eq_false c3
          clear c3
          (first | rw [c3b0] | (simp only [i64_w, i32_w]; rw [c3b0]) | skip)
          have H' := Aside0.mk H
          clear H
          go_wp2
          go_meet
          case rel => exact ⟨_, (false), (by first | rfl | (simp; done) | (simp [*]; done)), H', ⟨by have := HK1.out; first | omega | exact Nat.le_refl _⟩, by repeat (first | exact Drawn0.refl _ | apply Drawn0.step)⟩
      case rest =>
        clear HC2
        try clear p2
        try clear c3
        try clear c3b0
        obtain ⟨kq, x14_1, rfl, HA, HJ1, ⟨mc1, rfl⟩⟩ := hcut
        cases kq with
        | zero => exact absurd HA.out (by simp [squintlaw13_beyond.j1])
        | succ kj1 =>
          have H := HA.out
          clear HA
          simp only [squintlaw13_beyond.j1] at H
          by_cases c4 : x14_1 = true
          · subst c4
            have H1 : (if 0 ≤ x4_1 then (if x4_1 < (l0.length : Int) then (if (((rd_T38 l0 x4_1).f1).length : Int) > 4000 then (some true) else (squintlaw13_beyond.l0 kj1 l0 (wrap64 (x3_1 + (((rd_T38 l0 x4_1).f1).length : Int))) (wrap64 (x4_1 + 1)))) else (none)) else (none)) = some r := by rw [if_pos rfl] at H; exact H
            clear H
            have H := H1
            clear H1
            by_cases c5 : 0 ≤ x4_1
            · rw [if_pos c5] at H
              have c5b0 : decide (0 ≤ x4_1) = true := decide_eq_true c5
              clear c5
              by_cases c6 : x4_1 < (l0.length : Int)
              · rw [if_pos c6] at H
                have c6b0 : decide (x4_1 < (l0.length : Int)) = true := decide_eq_true c6
                clear c6
                by_cases c7 : (((rd_T38 l0 x4_1).f1).length : Int) > 4000
                · rw [if_pos c7] at H
                  have c7b0 : decide (4000 < (((rd_T38 l0 x4_1).f1).length : Int)) = true := decide_eq_true c7
                  have c7b1 : decide (4000 < ((rd_T38 l0 x4_1).f1).length) = true := decide_eq_true (by omega)
                  clear c7
                  obtain rfl := Option.some.inj H
                  have p128 : 0 ≤ (x4_1 : Int) := of_decide_eq_true (by first | (with_reducible assumption) | assumption)
                  have q128 : x4_1 < (l0.length : Int) := of_decide_eq_true (by first | (with_reducible assumption) | assumption)
                  obtain ⟨ad128, A128_1, c128_1, e128, hx128_0, hx128_1, hl128_1, hi128_1⟩ := at_T38 HR0.out x4_1 p128 q128
                  cases e128
                  have HR128_1 := Aside0.mk hi128_1
                  have HC128_1 := Aside0.mk hl128_1
                  clear hi128_1 hl128_1
                  replace p128 := eq_true p128
                  replace q128 := eq_true q128
                  go_wp2
                  go_ret
                  exact ⟨by first | rfl | (simp; done) | (simp [*]; done), by repeat (first | exact Drawn0.refl _ | apply Drawn0.step)⟩
                · rw [if_neg c7] at H
                  have c7b0 : decide (4000 < (((rd_T38 l0 x4_1).f1).length : Int)) = false := decide_eq_false c7
                  have c7b1 : decide (4000 < ((rd_T38 l0 x4_1).f1).length) = false := decide_eq_false (by omega)
                  clear c7
                  have H' := Aside0.mk H
                  clear H
                  have p128 : 0 ≤ (x4_1 : Int) := of_decide_eq_true (by first | (with_reducible assumption) | assumption)
                  have q128 : x4_1 < (l0.length : Int) := of_decide_eq_true (by first | (with_reducible assumption) | assumption)
                  obtain ⟨ad128, A128_1, c128_1, e128, hx128_0, hx128_1, hl128_1, hi128_1⟩ := at_T38 HR0.out x4_1 p128 q128
                  cases e128
                  have HR128_1 := Aside0.mk hi128_1
                  have HC128_1 := Aside0.mk hl128_1
                  clear hi128_1 hl128_1
                  replace p128 := eq_true p128
                  replace q128 := eq_true q128
                  have p129 : 0 ≤ (x4_1 : Int) := of_decide_eq_true (by first | (with_reducible assumption) | assumption)
                  have q129 : x4_1 < (l0.length : Int) := of_decide_eq_true (by first | (with_reducible assumption) | assumption)
                  obtain ⟨ad129, A129_1, c129_1, e129, hx129_0, hx129_1, hl129_1, hi129_1⟩ := at_T38 HR0.out x4_1 p129 q129
                  obtain rfl : ad128 = ad129 := (by injection e129)
                  have HR129_1 := Aside0.mk hi129_1
                  have HC129_1 := Aside0.mk hl129_1
                  clear hi129_1 hl129_1
                  replace p129 := eq_true p129
                  replace q129 := eq_true q129
                  have ea_ := Option.some.inj (hx128_1.symm.trans hx129_1)
                  injection ea_ with ea_ en_ ec_
                  subst ea_
                  subst ec_
                  clear en_
                  go_wp2
                  go_roundg kj1
                  case measure => have := HK1.out; have := HJ1.out; omega
                  case rel => exact ⟨(wrap64 (x3_1 + (((rd_T38 l0 x4_1).f1).length : Int))), (wrap64 (x4_1 + 1)), (by first | rfl | (simp; done) | (simp [*]; done)), (by first | rfl | (simp; done) | (simp [*]; done)), H', ⟨by have := HK1.out; have := HJ1.out; omega⟩, by repeat (first | exact Drawn0.refl _ | apply Drawn0.step)⟩
              · rw [if_neg c6] at H
                exact absurd H (by simp)
            · rw [if_neg c5] at H
              exact absurd H (by simp)
          · replace c4 := Bool.eq_false_iff.mpr c4
            subst c4
            have H1 : (some (decide (x3_1 > 4000))) = some r := by rw [if_neg (show ¬ (false = true) by decide)] at H; exact H
            clear H
            have H := H1
            clear H1
            obtain rfl := Option.some.inj H
            go_wp2
            go_ret
            exact ⟨by first | rfl | (simp; done) | (simp [*]; done), by repeat (first | exact Drawn0.refl _ | apply Drawn0.step)⟩
def squintlaw13_same.l0 : Nat → List (S47) → List (S47) → Int → Option (Bool)
  | 0, _, _, _ => none
  | k + 1, x0, x1, x5 => if x5 < (x0.length : Int) then (if 0 ≤ x5 then (if x5 < (x1.length : Int) then (if (!(((rd_T47 x0 x5).f0) == ((rd_T47 x1 x5).f0)) || (!(((rd_T47 x0 x5).f1) == ((rd_T47 x1 x5).f1)) || (!(((rd_T47 x0 x5).f2) == ((rd_T47 x1 x5).f2)) || (!(((rd_T47 x0 x5).f3) == ((rd_T47 x1 x5).f3)) || (!(((rd_T47 x0 x5).f4) == ((rd_T47 x1 x5).f4))))))) = true then (some false) else (squintlaw13_same.l0 k x0 x1 (wrap64 (x5 + 1)))) else (none)) else (none)) else (some true)
def squintlaw13_same.f (k : Nat) (l0 : List (S47)) (l1 : List (S47)) : Option (Bool) := if (l0.length : Int) = (l1.length : Int) then (squintlaw13_same.l0 k l0 l1 0) else (some false)
set_option maxHeartbeats 8000000 in
set_option maxRecDepth 100000 in
theorem squintlaw13_same.calls (k : Nat) (A0 : Option Addr) (c0 : Nat) (l0 : List (S47)) (A1 : Option Addr) (c1 : Nat) (l1 : List (S47)) (r : Bool) (w : World) (hr0 : Kd.C k47 w A0 l0.length l0) (hc0 : l0.length ≤ c0) (hr1 : Kd.C k47 w A1 l1.length l1) (hc1 : l1.length ≤ c1) (h : squintlaw13_same.f k l0 l1 = some r) :
    Calls Try.prog 20 #[.slice A0 l0.length c0, .slice A1 l1.length c1] w fun e w' => e = .returned (.bool r) ∧ Drawn0 w w' := by
  have hu47 := Try.underlying47
  have HR0 := Aside0.mk hr0
  have HC0 := Aside0.mk hc0
  clear hr0 hc0
  have HR1 := Aside0.mk hr1
  have HC1 := Aside0.mk hc1
  clear hr1 hc1
  have H : (if (l0.length : Int) = (l1.length : Int) then (squintlaw13_same.l0 k l0 l1 0) else (some false)) = some r := h
  clear h
  by_cases c3 : (l0.length : Int) = (l1.length : Int)
  · rw [if_pos c3] at H
    have c3b0 : ((l0.length : Int) == (l1.length : Int)) = true := beq_iff_eq.mpr c3
    have c3b1 : ((l0.length : Int) != (l1.length : Int)) = false := bne_eq_false_iff_eq.mpr c3
    have c3b2 : (l0.length == l1.length) = true := by first | simpa using c3 | (simp at c3 ⊢; omega)
    clear c3
    have H' := Aside0.mk H
    clear H
    go_enter Try.func20, Try.ntmps20
    go_wp2
    repeat (go_quiet (fail); try go_wp2)
    go_loopg [5] k (fun kq v5 w' => ∃ (x5_1 : Int), v5 = .int .i64 x5_1 ∧ Aside0 (squintlaw13_same.l0 kq l0 l1 x5_1 = some r) ∧ Aside0 (kq ≤ k) ∧ Drawn0 w w')
    case atStart => exact ⟨(0), (by first | rfl | (simp; done) | (simp [*]; done)), H', ⟨Nat.le_refl _⟩, by repeat (first | exact Drawn0.refl _ | apply Drawn0.step)⟩
    case round =>
      clear H'
      try clear c1
      try clear c2
      try clear p2
      try clear c3
      try clear c3b0
      try clear c3b1
      try clear c3b2
      obtain ⟨x5_1, rfl, HA, HK1, ⟨m1, rfl⟩⟩ := hrel
      cases gk with
      | zero => exact absurd HA.out (by simp [squintlaw13_same.l0])
      | succ k1 =>
        have H := HA.out
        clear HA
        simp only [squintlaw13_same.l0] at H
        by_cases c4 : x5_1 < (l0.length : Int)
        · rw [if_pos c4] at H
          have c4b0 : decide (x5_1 < (l0.length : Int)) = true := decide_eq_true c4
          clear c4
          by_cases c5 : 0 ≤ x5_1
          · rw [if_pos c5] at H
            have c5b0 : decide (0 ≤ x5_1) = true := decide_eq_true c5
            clear c5
            by_cases c6 : x5_1 < (l1.length : Int)
            · rw [if_pos c6] at H
              have c6b0 : decide (x5_1 < (l1.length : Int)) = true := decide_eq_true c6
              clear c6
              by_cases c7 : (!(((rd_T47 l0 x5_1).f0) == ((rd_T47 l1 x5_1).f0)) || (!(((rd_T47 l0 x5_1).f1) == ((rd_T47 l1 x5_1).f1)) || (!(((rd_T47 l0 x5_1).f2) == ((rd_T47 l1 x5_1).f2)) || (!(((rd_T47 l0 x5_1).f3) == ((rd_T47 l1 x5_1).f3)) || (!(((rd_T47 l0 x5_1).f4) == ((rd_T47 l1 x5_1).f4))))))) = true
              · rw [if_pos c7] at H
                have c7b0 : (!(((rd_T47 l0 x5_1).f0) == ((rd_T47 l1 x5_1).f0)) || (!(((rd_T47 l0 x5_1).f1) == ((rd_T47 l1 x5_1).f1)) || (!(((rd_T47 l0 x5_1).f2) == ((rd_T47 l1 x5_1).f2)) || (!(((rd_T47 l0 x5_1).f3) == ((rd_T47 l1 x5_1).f3)) || (!(((rd_T47 l0 x5_1).f4) == ((rd_T47 l1 x5_1).f4))))))) = true := c7
                clear c7
                obtain rfl := Option.some.inj H
                have p141 : 0 ≤ (x5_1 : Int) := of_decide_eq_true (by first | (with_reducible assumption) | assumption)
                have q141 : x5_1 < (l0.length : Int) := of_decide_eq_true (by first | (with_reducible assumption) | assumption)
                obtain ⟨ad141, e141, hx141_0, hx141_1, hx141_2, hx141_3, hx141_4⟩ := at_T47 HR0.out x5_1 p141 q141
                cases e141
                replace p141 := eq_true p141
                replace q141 := eq_true q141
                have p142 : 0 ≤ (x5_1 : Int) := of_decide_eq_true (by first | (with_reducible assumption) | assumption)
                have q142 : x5_1 < (l1.length : Int) := of_decide_eq_true (by first | (with_reducible assumption) | assumption)
                obtain ⟨ad142, e142, hx142_0, hx142_1, hx142_2, hx142_3, hx142_4⟩ := at_T47 HR1.out x5_1 p142 q142
                cases e142
                replace p142 := eq_true p142
                replace q142 := eq_true q142
                go_wp2
                repeat (go_quiet (fail); try go_wp2)
                go_ret
                exact ⟨by first | rfl | (simp; done) | (simp [*]; done), by repeat (first | exact Drawn0.refl _ | apply Drawn0.step)⟩
              · rw [if_neg c7] at H
                have c7b0 : (!(((rd_T47 l0 x5_1).f0) == ((rd_T47 l1 x5_1).f0)) || (!(((rd_T47 l0 x5_1).f1) == ((rd_T47 l1 x5_1).f1)) || (!(((rd_T47 l0 x5_1).f2) == ((rd_T47 l1 x5_1).f2)) || (!(((rd_T47 l0 x5_1).f3) == ((rd_T47 l1 x5_1).f3)) || (!(((rd_T47 l0 x5_1).f4) == ((rd_T47 l1 x5_1).f4))))))) = false := by simpa using c7
                clear c7
                have H' := Aside0.mk H
                clear H
                have p141 : 0 ≤ (x5_1 : Int) := of_decide_eq_true (by first | (with_reducible assumption) | assumption)
                have q141 : x5_1 < (l0.length : Int) := of_decide_eq_true (by first | (with_reducible assumption) | assumption)
                obtain ⟨ad141, e141, hx141_0, hx141_1, hx141_2, hx141_3, hx141_4⟩ := at_T47 HR0.out x5_1 p141 q141
                cases e141
                replace p141 := eq_true p141
                replace q141 := eq_true q141
                have p142 : 0 ≤ (x5_1 : Int) := of_decide_eq_true (by first | (with_reducible assumption) | assumption)
                have q142 : x5_1 < (l1.length : Int) := of_decide_eq_true (by first | (with_reducible assumption) | assumption)
                obtain ⟨ad142, e142, hx142_0, hx142_1, hx142_2, hx142_3, hx142_4⟩ := at_T47 HR1.out x5_1 p142 q142
                cases e142
                replace p142 := eq_true p142
                replace q142 := eq_true q142
                go_wp2
                repeat (go_quiet (fail); try go_wp2)
                go_roundg k1
                case measure => have := HK1.out; omega
                case rel => exact ⟨(wrap64 (x5_1 + 1)), (by first | rfl | (simp; done) | (simp [*]; done)), H', ⟨by have := HK1.out; omega⟩, by repeat (first | exact Drawn0.refl _ | apply Drawn0.step)⟩
            · rw [if_neg c6] at H
              exact absurd H (by simp)
          · rw [if_neg c5] at H
            exact absurd H (by simp)
        · rw [if_neg c4] at H
          have c4b0 : decide (x5_1 < (l0.length : Int)) = false := decide_eq_false c4
          clear c4
          obtain rfl := Option.some.inj H
          go_wp2
          repeat (go_quiet (fail); try go_wp2)
          go_ret
          exact ⟨by first | rfl | (simp; done) | (simp [*]; done), by repeat (first | exact Drawn0.refl _ | apply Drawn0.step)⟩
  · rw [if_neg c3] at H
    have c3b0 : ((l0.length : Int) == (l1.length : Int)) = false := beq_eq_false_iff_ne.mpr c3
    have c3b1 : ((l0.length : Int) != (l1.length : Int)) = true := bne_iff_ne.mpr c3
    have c3b2 : (l0.length == l1.length) = false := by first | simpa using c3 | (simp at c3 ⊢; omega)
    obtain rfl := Option.some.inj H
    go_enter Try.func20, Try.ntmps20
    go_wp2
    repeat (go_quiet (fail); try go_wp2)
    go_ret
    exact ⟨by first | rfl | (simp; done) | (simp [*]; done), by repeat (first | exact Drawn0.refl _ | apply Drawn0.step)⟩
end Go.Proofs.Ytokbonceeglciaa.Print
end
section
namespace Go.Proofs.Ytokbonceeglciaa.Print
open Go.Proofs.Ytokbonceeglciaa.Given
open Go.RowKit Go.Proofs.YtokbonceeglciaaW.PrintWords Go.Proofs.YtokbonceeglciaaW.PrintLast Go.Proofs.YtokbonceeglciaaW.PrintMore
attribute [local go_sem] max2_int min2_int max_two min_two max_three min_three max_four min_four
set_option linter.unusedVariables false
set_option linter.unusedSimpArgs false
end Go.Proofs.Ytokbonceeglciaa.Print
end
section
namespace Go.Proofs.Ytokbonceeglciaa.Print
open Go.Proofs.Ytokbonceeglciaa.Given
open Go.RowKit Go.Proofs.YtokbonceeglciaaW.PrintWords Go.Proofs.YtokbonceeglciaaW.PrintLast Go.Proofs.YtokbonceeglciaaW.PrintMore
attribute [local go_sem] max2_int min2_int max_two min_two max_three min_three max_four min_four
set_option linter.unusedVariables false
set_option linter.unusedSimpArgs false
end Go.Proofs.Ytokbonceeglciaa.Print
end
section
namespace Go.Proofs.Ytokbonceeglciaa.Print
open Go.Proofs.Ytokbonceeglciaa.Given
open Go.RowKit Go.Proofs.YtokbonceeglciaaW.PrintWords Go.Proofs.YtokbonceeglciaaW.PrintLast Go.Proofs.YtokbonceeglciaaW.PrintMore
attribute [local go_sem] max2_int min2_int max_two min_two max_three min_three max_four min_four
set_option linter.unusedVariables false
set_option linter.unusedSimpArgs false
end Go.Proofs.Ytokbonceeglciaa.Print
end
section
namespace Go.Proofs.Ytokbonceeglciaa.Given
open Go.RowKit Go.Shelf Go.Proofs.YtokbonceeglciaaW.PrintWords Go.Proofs.YtokbonceeglciaaW.PrintLast Go.Proofs.YtokbonceeglciaaW.PrintMore Go.Proofs.Ytokbonceeglciaa.Print
set_option linter.unusedVariables false
set_option linter.unusedSimpArgs false
def Ev {α : Type} (f : Nat → Option α) (v : α) : Prop := ∃ K, ∀ k, K ≤ k → f k = some v
theorem Ev.step {α : Type} {f g : Nat → Option α} {v : α} (h : Ev g v) (hf : ∀ k, f (k + 1) = g k) : Ev f v := by
  obtain ⟨K, hK⟩ := h
  refine ⟨K + 1, fun k hk => ?_⟩
  obtain ⟨n, rfl⟩ : ∃ n, k = n + 1 := ⟨k - 1, by omega⟩
  rw [hf]
  exact hK n (by omega)
theorem Ev.done {α : Type} {f : Nat → Option α} {v : α} (hf : ∀ k, f (k + 1) = some v) : Ev f v := ⟨1, fun k hk => by
  obtain ⟨n, rfl⟩ : ∃ n, k = n + 1 := ⟨k - 1, by omega⟩
  exact hf n⟩
theorem Ev.bind {α β : Type} {f : Nat → Option α} {F : Nat → α → Option β} {v : α} {u : β} (h : Ev f v) (hF : Ev (fun k => F k v) u) : Ev (fun k => (f k).bind fun x => F k x) u := by
  obtain ⟨K, hK⟩ := h
  obtain ⟨K2, hK2⟩ := hF
  refine ⟨max K K2, fun k hk => ?_⟩
  show (f k).bind _ = some u
  rw [hK k (by omega)]
  exact hK2 k (by omega)
theorem Ev.get {α : Type} {f : Nat → Option α} {v : α} (h : Ev f v) : ∃ k, f k = some v := by
  obtain ⟨K, hK⟩ := h
  exact ⟨K, hK K (Nat.le_refl _)⟩
theorem wrap_succ (n : Nat) (h : n < 9223372036854775807) : wrap64 ((n : Int) + 1) = ((n + 1 : Nat) : Int) := by simp only [wrap64]; omega
theorem rd38 {l : List S38} {n : Nat} (h : n < l.length) : rd_T38 l (n : Int) = l[n] := by
  unfold rd_T38
  rw [Int.toNat_natCast, List.getD_eq_getElem?_getD, List.getElem?_eq_getElem h]
  rfl
theorem rd43 {l : List S43} {n : Nat} (h : n < l.length) : rd_T43 l (n : Int) = l[n] := by
  unfold rd_T43
  rw [Int.toNat_natCast, List.getD_eq_getElem?_getD, List.getElem?_eq_getElem h]
  rfl
theorem rd47 {l : List S47} {n : Nat} (h : n < l.length) : rd_T47 l (n : Int) = l[n] := by
  unfold rd_T47
  rw [Int.toNat_natCast, List.getD_eq_getElem?_getD, List.getElem?_eq_getElem h]
  rfl
section
variable (l : List S38) (hm : l.length ≤ 4611686018427387904) (ha : ∀ x ∈ l, x.f1.length ≤ 4611686018427387904)
include ha in
end
end Go.Proofs.Ytokbonceeglciaa.Given
end
