/- Who can meet whom (post.Pairs): the contract. Its condition: the list is not longer than some thousands. -/
import Derived.Test.YtokbonceeglciaaGivenE
import Derived.Shelf.RegionOpen
namespace Go.Proofs.Ytokbonceeglciaa.Given
open Go.RowKit Go.Shelf Go.Proofs.YtokbonceeglciaaW.PrintWords Go.Proofs.Ytokbonceeglciaa.Print
attribute [local go_sem] Oper.semAt_some

def pairsQ (pid i ch : Int) (q : S38) : List S47 := (selR (recvX ch) 0 q.f1).map fun r => ⟨pid, i, q.f0, r.1, ch⟩
def pairsA (l : List S38) (pid i ch : Int) : List S47 := (selR (fun q : S38 => q.f0 != pid) 0 l).flatMap fun q => pairsQ pid i ch (l.getD q.1 z38)
def pairsP (l : List S38) (p : S38) : List S47 := (selR (sendX 0) 0 p.f1).flatMap fun y => pairsA l p.f0 y.1 y.2.f0
def pairsOf (l : List S38) : List S47 := if rightOf l = true then l.flatMap (pairsP l) else []
theorem selR_fst {α β γ : Type} {p : α → Bool} {q : β → Bool} {f : α → γ} {g : β → γ} : ∀ (i : Nat) (zs : List α) (xs : List β), zs.length = xs.length → (∀ (j : Nat) (x : β) (z : α), xs[j]? = some x → zs[j]? = some z → p z = q x ∧ f z = g x) → (selR p i zs).map (fun y => (y.1, f y.2)) = (selR q i xs).map (fun y => (y.1, g y.2))
  | _, [], [], _, _ => rfl
  | _, [], _ :: _, h, _ => by simp at h
  | _, _ :: _, [], h, _ => by simp at h
  | i, z :: zs, x :: xs, hl, h => by
    obtain ⟨h0, h1⟩ := h 0 x z rfl rfl
    have ih := selR_fst (p := p) (q := q) (f := f) (g := g) (i + 1) zs xs (by simpa using hl) (fun j a b ha hb => h (j + 1) a b (by simpa using ha) (by simpa using hb))
    simp only [selR, h0]
    split
    · simp [ih, h1]
    · exact ih
theorem flatMap_len {α β : Type} (f : α → List β) (T : Nat) : ∀ l : List α, (∀ x ∈ l, (f x).length ≤ T) → (l.flatMap f).length ≤ l.length * T
  | [], _ => by simp
  | x :: l, h => by
    have h1 := h x (by simp)
    have h2 := flatMap_len f T l (fun y hy => h y (by simp [hy]))
    simp only [List.flatMap_cons, List.length_append, List.length_cons]
    rw [Nat.succ_mul]
    omega
theorem arms_mem (l : List S38) : ∀ x ∈ l, x.f1.length ≤ arms l := by
  induction l with
  | nil => simp
  | cons y l ih =>
    intro x hx
    simp only [arms, List.map_cons, List.sum_cons]
    rcases List.mem_cons.1 hx with rfl | hx
    · omega
    · have := ih x hx
      simp only [arms] at this
      omega
theorem arms_getD (l : List S38) (j : Nat) : (l.getD j z38).f1.length ≤ arms l := by
  by_cases h : j < l.length
  · rw [List.getD_eq_getElem?_getD, List.getElem?_eq_getElem h]
    exact arms_mem l _ (List.getElem_mem h)
  · rw [List.getD_eq_getElem?_getD, List.getElem?_eq_none (by omega)]
    simp [z38]
theorem pairsQ_len (pid i ch : Int) (q : S38) : (pairsQ pid i ch q).length ≤ q.f1.length := by
  simp only [pairsQ, List.length_map]
  exact selR_len _ _ _
theorem pairsA_len (l : List S38) (pid i ch : Int) : (pairsA l pid i ch).length ≤ l.length * arms l := by
  refine Nat.le_trans (flatMap_len _ (arms l) _ (fun x _ => Nat.le_trans (pairsQ_len _ _ _ _) (arms_getD l _))) ?_
  exact Nat.mul_le_mul_right _ (selR_len _ _ _)
theorem pairsP_len (l : List S38) (p : S38) : (pairsP l p).length ≤ p.f1.length * (l.length * arms l) := by
  refine Nat.le_trans (flatMap_len _ (l.length * arms l) _ (fun x _ => pairsA_len _ _ _ _)) ?_
  exact Nat.mul_le_mul_right _ (selR_len _ _ _)
theorem pairs_len (l : List S38) : ∀ k : List S38, (k.flatMap (pairsP l)).length ≤ arms k * (l.length * arms l)
  | [] => by simp
  | p :: k => by
    have h1 := pairsP_len l p
    have h2 := pairs_len l k
    have h3 : arms (p :: k) = p.f1.length + arms k := by simp [arms]
    rw [List.flatMap_cons, List.length_append, h3, Nat.add_mul]
    omega

set_option maxRecDepth 100000 in
set_option maxHeartbeats 8000000 in
theorem pairs_yes (A : Option Addr) (c : Nat) (l : List S38) (w : World) (hr : Kd.C k38 w A l.length l) (hc : l.length ≤ c) (hb : l.length + arms l ≤ 5000) (hy : rightOf l = true) :
    Calls Try.prog 10 #[.slice A l.length c] w fun e w' => ∃ v, e = .returned v ∧ Kd.R k47 47 w' w.heap.size (fun _ => True) v (l.flatMap (pairsP l)) ∧ Below w.heap.size w w' := by
  have hm := hr.2.1
  obtain ⟨zs, hzl, hz, hrow⟩ := rawW hr
  have HR := Aside0.mk hr
  have HROW := Aside0.mk hrow
  have HZ := Aside0.mk hz
  have HY := Aside0.mk hy
  have HZL := Aside0.mk hzl
  clear hr hrow hz hy hzl
  refine (callsIn_wide (n := 9)).1 ?_
  refine callsIn_of_wp_marks Try.func10 rfl trivial ?_ rfl
  simp only [Try.ntmps10, List.size_toArray, List.length_cons, List.length_nil, Nat.reduceAdd, Nat.reduceSub, Array.replicate_succ, Array.replicate_zero, List.push_toArray, List.append_toArray, List.nil_append, List.cons_append]
  refine wpIn_wide.2 ?_
  go_wp2_with (go_at_call 22; refine (right_any A c l _ (Kd.C_alloc (Kd.C_alloc HR.out _) _) hc).mono ?_; rw [HY.out]; rintro e w1 ⟨rfl, hb1⟩; have HB1 := Aside0.mk hb1; have cl := Boxed.cell (heap_keep ((Boxed.new w 22 (.slice A l.length c)).alloc (.cells #[.slice none 0 0] 33)) hb1); clear hb1)
  have hBl := heap_keep ((Boxed.new w 22 (.slice A l.length c)).alloc (.cells #[.slice none 0 0] 33)) HB1.out
  have hBo := Boxed.new (w.alloc (.cells #[.slice A l.length c] 22)) 33 (.slice none 0 0)
  rw [World.size_alloc] at hBo
  replace hBo := heap_keep hBo HB1.out
  have hK1 : Kp w.heap.size w w1 := ⟨(below_alloc (below_alloc (Below.refl _ w) _) _).trans (HB1.out.mono (by simp; omega)), ((KT.alloc w _).trans (KT.alloc _ _)).trans ⟨HB1.out.size, fun k cs t fr hk _ _ => heap_keep hk HB1.out⟩⟩
  have hO1 : OutAt w.heap.size (w.heap.size + 1) w1 [] := ⟨.slice none 0 0, hBo, Kd.R_nil _ _ _ _ _⟩
  have HBL : Aside0 (Boxed w1 w.heap.size 22 (.slice A l.length c)) := ⟨hBl⟩
  have HK1 := Aside0.mk hK1
  have HO1 := Aside0.mk hO1
  clear hK1 hO1 hBl hBo cl
  refine wp_loop (fun a' W => ∃ (k : Nat) (u5 u18 u19 u20 u21 u22 u23 u24 u52 : Value) (ds : List Deferred), a' = { tmps := #[.slice A l.length c, .pointer (some ⟨w.heap.size, 0, none⟩), .slice none 0 0, .pointer (some ⟨w.heap.size + 1, 0, none⟩), undef, u5, undef, undef, undef, undef, undef, .slice A l.length c, .bool true, .bool false, undef, .slice A l.length c, .int .i64 l.length, .int .i64 k, u18, u19, u20, u21, u22, u23, u24, undef, undef, undef, undef, undef, undef, undef, undef, undef, undef, undef, undef, undef, undef, undef, undef, undef, undef, undef, undef, undef, undef, undef, undef, undef, undef, undef, u52, undef], defers := ds } ∧ k ≤ l.length ∧ Aside0 (Kp w.heap.size w W) ∧ Aside0 (OutAt w.heap.size (w.heap.size + 1) W ((l.take k).flatMap (pairsP l))) ∧ Aside0 (Marks w.heap.size ds W) ∧ Aside0 (KT w1 W))
    (fun a' _ => l.length - (intOf (a'.tmps.getD 17 undef)).toNat) ?start ?round
  case start => exact ⟨0, undef, undef, undef, undef, undef, undef, undef, undef, undef, [], rfl, by omega, HK1, HO1, ⟨List.Pairwise.nil, by simp⟩, ⟨KT.refl _⟩⟩
  case round =>
    rintro a W ⟨k, u5, u18, u19, u20, u21, u22, u23, u24, u52, ds, rfl, hk, HK, HO, HM, HT⟩
    by_cases hlt : k < l.length
    · obtain ⟨z, hz⟩ : ∃ z, zs[k]? = some z := ⟨zs[k]'(by have := HZL.out; omega), List.getElem?_eq_getElem _⟩
      have hlk : l[k]? = some l[k] := List.getElem?_eq_getElem hlt
      obtain ⟨z1, z2, z3⟩ := HZ.out k _ z hlk hz
      obtain ⟨ad, rfl, hbl, x0, x1⟩ := HROW.out k z hz
      replace x0 := (HK.out.1.cell (p := ad.add (k * 2)) hbl).trans x0
      replace x1 := (HK.out.1.cell (p := ⟨(ad.add (k * 2)).block, (ad.add (k * 2)).off + 1, none⟩) hbl).trans x1
      have Z1 := Aside0.mk z1
      have Z2 := Aside0.mk z2
      have Z3 := Aside0.mk z3
      clear z1 z2 z3 hlk
      go_wp2_with (fail)
      go_region_held3 (fun X => X.cell? ⟨W.heap.size, 1, none⟩ = some (.slice z.A z.n z.c)) (first | go_keep)
        (first | (go_at_call 24; refine (senders_any 0 _).mono ?_; rintro e w2 ⟨rfl, rfl⟩) | (go_at_call 23; refine (that23_any _ _ _ 31 _ _).mono ?_; rintro e w3 ⟨rfl, rfl⟩))
      obtain ⟨W0, hW0⟩ : ∃ W0, W0 = ((((W.alloc (.cells #[.int .i64 z.id, .slice z.A z.n z.c] 38)).alloc (.cells #[.int .i64 0] 3)).alloc (.cells #[.slice z.A z.n z.c] 36)).alloc (.cells #[.func (.func 31) #[] #[.pointer (some ⟨W.heap.size + 1, 0, none⟩)]] 54)).drew := ⟨_, rfl⟩
      have b5 : W0.heap[W.heap.size]? = some (.cells #[.int .i64 z.id, .slice z.A z.n z.c] 38 (0, 0)) := by
        rw [hW0]; exact heap_keep (heap_alloc_new W _) (below_drew (below_alloc (below_alloc (below_alloc (Below.refl _ _) _) _) _))
      have bN : Boxed W0 (W.heap.size + 1) 3 (.int .i64 0) := by
        rw [hW0]
        have h := Boxed.new (W.alloc (.cells #[.int .i64 z.id, .slice z.A z.n z.c] 38)) 3 (.int .i64 0)
        rw [World.size_alloc] at h
        exact (h.alloc _).alloc _
      have bS : Boxed W0 (W.heap.size + 1 + 1) 36 (.slice z.A z.n z.c) := by
        rw [hW0]
        have h := Boxed.new ((W.alloc (.cells #[.int .i64 z.id, .slice z.A z.n z.c] 38)).alloc (.cells #[.int .i64 0] 3)) 36 (.slice z.A z.n z.c)
        simp only [World.size_alloc] at h
        exact h.alloc _
      have bH : Boxed W0 (W.heap.size + 1 + 1 + 1) 54 (.func (.func 31) #[] #[.pointer (some ⟨W.heap.size + 1, 0, none⟩)]) := by
        rw [hW0]
        have h := Boxed.new (((W.alloc (.cells #[.int .i64 z.id, .slice z.A z.n z.c] 38)).alloc (.cells #[.int .i64 0] 3)).alloc (.cells #[.slice z.A z.n z.c] 36)) 54 (.func (.func 31) #[] #[.pointer (some ⟨W.heap.size + 1, 0, none⟩)])
        simp only [World.size_alloc] at h
        exact h
      have hT0 : KT w1 W0 := by
        rw [hW0]
        exact (((HT.out.trans (KT.alloc W (.cells #[.int .i64 z.id, .slice z.A z.n z.c] 38))).trans (KT.alloc _ (.cells #[.int .i64 0] 3))).trans (KT.alloc _ (.cells #[.slice z.A z.n z.c] 36))).trans (KT.alloc _ (.cells #[.func (.func 31) #[] #[.pointer (some ⟨W.heap.size + 1, 0, none⟩)]] 54))
      have hK0 : Kp w.heap.size w W0 := by
        rw [hW0]
        have hs := HK.out.1.size
        have h := (((HK.out.alloc hs (.cells #[.int .i64 z.id, .slice z.A z.n z.c] 38)).alloc (by simp; omega) (.cells #[.int .i64 0] 3)).alloc (by simp; omega) (.cells #[.slice z.A z.n z.c] 36)).alloc (by simp; omega) (.cells #[.func (.func 31) #[] #[.pointer (some ⟨W.heap.size + 1, 0, none⟩)]] 54)
        exact ⟨below_drew h.1, h.2⟩
      have hO0 : OutAt w.heap.size (w.heap.size + 1) W0 ((l.take k).flatMap (pairsP l)) := by rw [hW0]; exact (((HO.out.alloc _).alloc _).alloc _).alloc _
      have hM0 : Marks w.heap.size ds W0 := by
        rw [hW0]
        exact HM.out.keeps (((((KeepsOthers.alloc _ _).trans (KeepsOthers.alloc _ _)).trans (KeepsOthers.alloc _ _)).trans (KeepsOthers.alloc _ _)).trans (KeepsOthers.drew _))
      rw [← hW0]
      clear hW0
      go_wp2_with (fail)
      refine (wpIn_wide (n := 9)).1 ?_
      obtain ⟨az, hal, haz, harow⟩ := rawA Z3.out
      obtain ⟨i0, hi0, hz0, hz1, hz2⟩ := info_parts info47
      have hn2 := Z2.out
      rw [← hal] at hn2
      rw [hn2] at bS
      have HN2 := Aside0.mk hn2
      clear hn2
      obtain ⟨acc, hacc⟩ : ∃ acc, acc = (l.take k).flatMap (pairsP l) := ⟨_, rfl⟩
      have hNT : l.length * arms l ≤ 5000 * 5000 := Nat.mul_le_mul (by omega) (by omega)
      have hazl : az.length ≤ arms l := by rw [hal]; exact arms_mem l _ (List.getElem_mem hlt)
      have hlen : acc.length ≤ 5000 * (5000 * 5000) := by
        rw [hacc]
        refine Nat.le_trans (pairs_len l _) (Nat.mul_le_mul ?_ hNT)
        have := arms_take l k hlt
        omega
      rw [← hacc] at hO0
      have HACC := Aside0.mk hacc
      have HNT := Aside0.mk hNT
      clear hacc hNT
      have hs0 := hK0.1.size
      have cBl : Boxed W0 w.heap.size 22 (.slice (some ad) l.length c) := hT0.boxed HBL.out (by decide) (by decide)
      refine wpIn_rangeFunc_ownH rfl (by decide) (gf := 30) (lb := #[.pointer (some ⟨W.heap.size + 1 + 1, 0, none⟩), .pointer (some ⟨W.heap.size + 1 + 1 + 1, 0, none⟩)]) rfl trivial (enters_of Try.func30 (by kernel_rfl) rfl)
        (armsS_stops 8 _ _ (W.heap.size + 1) w.heap.size z.A z.c az 0 (by omega) W0 bS bH bN (harow.below hK0.1) hs0) Kp.t (Kp.b hs0) (Below.refl _ _) (fun _ => rfl)
        (fun pre X => (OutAt w.heap.size (w.heap.size + 1) X (acc ++ pre.flatMap fun y => pairsA l z.id (y.1 : Nat) y.2.ch) ∧ Kp w.heap.size W0 X) ∧ Marks w.heap.size ds X)
        (fun _ _ _ => False)
        (OwnFrom.and (OwnFrom.and (own_out _ _ _ _) (own_Kp hs0 hs0)) (own_marks hM0.lt))
        (fun _ _ _ _ _ hs _ _ => hs)
        ⟨⟨by simpa using hO0, Below.refl _ _, KT.refl _⟩, hM0⟩
        (fun x a' X => ∃ Bi, (X.heap[Bi]? = some (.cells #[.int .i64 (x.1 : Nat)] 3 (0, 0)) ∧ X.heap[Bi + 1]? = some (.cells #[.int .i64 x.2.ch, .bool x.2.sd, .int .i64 x.2.a, .int .i64 x.2.b, .slice x.2.A x.2.n x.2.c] 43 (0, 0))) ∧ a' = { tmps := #[.slice (some ad) l.length c, .pointer (some ⟨w.heap.size, 0, none⟩), .slice none 0 0, .pointer (some ⟨w.heap.size + 1, 0, none⟩), undef, .pointer (some ⟨W.heap.size, 0, none⟩), .pointer (some ⟨Bi, 0, none⟩), .pointer (some ⟨Bi + 1, 0, none⟩), undef, undef, undef, .slice (some ad) l.length c, .bool true, .bool false, undef, .slice (some ad) l.length c, .int .i64 l.length, .int .i64 k, .bool true, .pointer (some (ad.add (k * 2))), .agg #[.int .i64 z.id, .slice z.A z.n z.c], .pointer (some ⟨W.heap.size, 1, none⟩), .slice z.A z.n z.c, .func (.func 31) #[] #[.pointer (some ⟨W.heap.size + 1, 0, none⟩)], .func (.func 30) #[] #[.pointer (some ⟨W.heap.size + 1 + 1, 0, none⟩), .pointer (some ⟨W.heap.size + 1 + 1 + 1, 0, none⟩)], .int .i64 (x.1 : Nat), encA x.2, undef, undef, undef, undef, undef, undef, undef, undef, undef, undef, undef, undef, undef, undef, undef, undef, undef, undef, undef, undef, undef, undef, undef, undef, undef, u52, undef], defers := [] })
        (fun x a' _ X Y row hs hg hr => by obtain ⟨Bi, ⟨h1, h2⟩, h3⟩ := hs; exact ⟨Bi, ⟨own_cells (β := Unit) () X Y row h1 hg hr, own_cells (β := Unit) () X Y row h2 hg hr⟩, h3⟩)
        ?assign ?body ?done ?stop
      case assign =>
        rintro l' pre x X K ⟨⟨hO, hKX⟩, hMX⟩ hK
        have hsX := Nat.le_trans hs0 hKX.1.size
        dsimp only [encA]
        gi_wp2
        refine hK _ _ (((KeepsOthers.alloc _ _).trans (KeepsOthers.alloc _ _)).from _) ((Kp.alloc ⟨Below.refl _ _, KT.refl _⟩ hsX _).alloc (by simp; omega) _) ⟨⟨(hO.alloc _).alloc _, (hKX.alloc hsX _).alloc (by simp; omega) _⟩, hMX.keeps ((KeepsOthers.alloc _ _).trans (KeepsOthers.alloc _ _))⟩ ⟨X.heap.size, ⟨heap_keep (heap_alloc_new X _) (below_alloc (Below.refl _ _) _), ?_⟩, rfl⟩
        have h := heap_alloc_new (X.alloc (.cells #[.int .i64 (x.1 : Nat)] 3)) (.cells #[.int .i64 x.2.ch, .bool x.2.sd, .int .i64 x.2.a, .int .i64 x.2.b, .slice x.2.A x.2.n x.2.c] 43)
        rw [World.size_alloc] at h
        exact h
      case body =>
        rintro l1 pre x a' X1 hl1 ⟨r1, hr1⟩ ⟨⟨hO1, hKX1⟩, hMX1⟩ ⟨Bi, ⟨bi, ba⟩, rfl⟩ hlt1
        have hs1 : w.heap.size ≤ X1.heap.size := Nat.le_trans hs0 hKX1.1.size
        have cl1 := (hKX1.2.boxed cBl (by decide) (by decide)).cell
        have b51 := hKX1.2.2 _ _ _ _ b5 (by decide) (by decide)
        have hacc1 : (acc ++ pre.flatMap fun y => pairsA l z.id (y.1 : Nat) y.2.ch).length ≤ 5000 * (5000 * 5000) + 5000 * (5000 * 5000) := by
          rw [List.length_append]
          refine Nat.add_le_add hlen (Nat.le_trans (flatMap_len _ (l.length * arms l) _ (fun y _ => pairsA_len _ _ _ _)) (Nat.mul_le_mul ?_ HNT.out))
          omega
        obtain ⟨acc1, hac1⟩ : ∃ acc1, acc1 = acc ++ pre.flatMap fun y => pairsA l z.id (y.1 : Nat) y.2.ch := ⟨_, rfl⟩
        rw [← hac1] at hO1 hacc1
        have HAC1 := Aside0.mk hac1
        clear hac1
        gi_wp2_with (refine ⟨trivial, ?_⟩; refine (CallsIn.inRound l1 (callsIn_wide.2 (that25_any _ _ _ 26 _ _))).mono ?_; rintro e w' ⟨rfl, rfl⟩)
        have bW1 := (Boxed.new X1 22 (.slice (some ad) l.length c)).alloc (.cells #[.func (.func 26) #[] #[.pointer (some ⟨W.heap.size, 0, none⟩)]] 59)
        have bF1 := Boxed.new (X1.alloc (.cells #[.slice (some ad) l.length c] 22)) 59 (.func (.func 26) #[] #[.pointer (some ⟨W.heap.size, 0, none⟩)])
        rw [World.size_alloc] at bF1
        have b52 : ((X1.alloc (.cells #[.slice (some ad) l.length c] 22)).alloc (.cells #[.func (.func 26) #[] #[.pointer (some ⟨W.heap.size, 0, none⟩)]] 59)).heap[W.heap.size]? = some (.cells #[.int .i64 z.id, .slice z.A z.n z.c] 38 (0, 0)) := heap_keep b51 (below_alloc (below_alloc (Below.refl _ _) _) _)
        have hr1' : ((X1.alloc (.cells #[.slice (some ad) l.length c] 22)).alloc (.cells #[.func (.func 26) #[] #[.pointer (some ⟨W.heap.size, 0, none⟩)]] 59)).heap[l1]? = some (.loop r1) := heap_keep hr1 (below_alloc (below_alloc (Below.refl _ _) _) _)
        have hKX1a : Kp w.heap.size X1 ((X1.alloc (.cells #[.slice (some ad) l.length c] 22)).alloc (.cells #[.func (.func 26) #[] #[.pointer (some ⟨W.heap.size, 0, none⟩)]] 59)) := (Kp.alloc ⟨Below.refl _ _, KT.refl _⟩ hs1 _).alloc (by simp; omega) _
        have hkX1a : KeepsFrom W0.heap.size X1 ((X1.alloc (.cells #[.slice (some ad) l.length c] 22)).alloc (.cells #[.func (.func 26) #[] #[.pointer (some ⟨W.heap.size, 0, none⟩)]] 59)) := ((KeepsOthers.alloc _ _).trans (KeepsOthers.alloc _ _)).from _
        have hO1a := (hO1.alloc (.cells #[.slice (some ad) l.length c] 22)).alloc (.cells #[.func (.func 26) #[] #[.pointer (some ⟨W.heap.size, 0, none⟩)]] 59)
        have hM1a := hMX1.keeps ((KeepsOthers.alloc X1 (.cells #[.slice (some ad) l.length c] 22)).trans (KeepsOthers.alloc _ (.cells #[.func (.func 26) #[] #[.pointer (some ⟨W.heap.size, 0, none⟩)]] 59)))
        have hrow1 := HROW.out.below (hK0.1.trans (hKX1.1.trans hKX1a.1))
        obtain ⟨Y1, hY1⟩ : ∃ Y1, Y1 = (X1.alloc (.cells #[.slice (some ad) l.length c] 22)).alloc (.cells #[.func (.func 26) #[] #[.pointer (some ⟨W.heap.size, 0, none⟩)]] 59) := ⟨_, rfl⟩
        have hsY : Y1.heap.size = X1.heap.size + 2 := by rw [hY1]; simp
        rw [← hY1] at bW1 bF1 b52 hr1' hKX1a hkX1a hO1a hM1a hrow1 ⊢
        clear hY1
        have HSY := Aside0.mk hsY
        have hsY0 : w.heap.size ≤ Y1.heap.size := by omega
        have hsY1 : X1.heap.size ≤ Y1.heap.size := by omega
        clear hsY
        have bW1z : Boxed Y1 X1.heap.size 22 (.slice (some ad) zs.length c) := by rw [HZL.out]; exact bW1
        refine wpIn_rangeFunc_ownN (l₀ := l1) (r₀ := r1) rfl hr1' (by decide) (gf := 32) (lb := #[.pointer (some ⟨X1.heap.size, 0, none⟩), .pointer (some ⟨X1.heap.size + 1, 0, none⟩)]) rfl trivial (enters_of Try.func32 (by kernel_rfl) rfl)
          ((waits_stops 6 _ _ W.heap.size w.heap.size (some ad) c zs z.id (by have := HZL.out; omega) Y1 bW1z bF1 _ b52 hrow1 hsY0).inRound l1) Kp.t (Kp.b hsY0) (Below.refl _ _) (fun _ => rfl)
          (fun pre' X => OutAt w.heap.size (w.heap.size + 1) X (acc1 ++ pre'.flatMap fun s : Sub zs => pairsQ z.id (x.1 : Nat) x.2.ch (l.getD s.1.1 z38)) ∧ (Marks w.heap.size ds X ∧ (Kp w.heap.size X1 X ∧ KeepsFrom W0.heap.size X1 X)))
          (fun _ _ _ => False)
          (OwnFrom.and (own_out _ _ _ _) (OwnFrom.and (own_marks (fun d hd D e => Nat.lt_of_lt_of_le (hM0.lt d hd D e) (Nat.le_trans hKX1.1.size hsY1))) (OwnFrom.and (own_Kp hs1 hsY0) (ownFrom_keepsFrom hsY1))))
          (fun _ _ _ _ _ hs _ _ => hs)
          ⟨by simpa using hO1a, hM1a, hKX1a, hkX1a⟩
          (fun s a' X => ∃ Bq, X.heap[Bq]? = some (.cells #[.int .i64 s.1.2.id, .slice s.1.2.A s.1.2.n s.1.2.c] 38 (0, 0)) ∧ a' = { tmps := #[.slice (some ad) l.length c, .pointer (some ⟨w.heap.size, 0, none⟩), .slice none 0 0, .pointer (some ⟨w.heap.size + 1, 0, none⟩), undef, .pointer (some ⟨W.heap.size, 0, none⟩), .pointer (some ⟨Bi, 0, none⟩), .pointer (some ⟨Bi + 1, 0, none⟩), undef, .pointer (some ⟨Bq, 0, none⟩), undef, .slice (some ad) l.length c, .bool true, .bool false, undef, .slice (some ad) l.length c, .int .i64 l.length, .int .i64 k, .bool true, .pointer (some (ad.add (k * 2))), .agg #[.int .i64 z.id, .slice z.A z.n z.c], .pointer (some ⟨W.heap.size, 1, none⟩), .slice z.A z.n z.c, .func (.func 31) #[] #[.pointer (some ⟨W.heap.size + 1, 0, none⟩)], .func (.func 30) #[] #[.pointer (some ⟨W.heap.size + 1 + 1, 0, none⟩), .pointer (some ⟨W.heap.size + 1 + 1 + 1, 0, none⟩)], .int .i64 (x.1 : Nat), encA x.2, .slice (some ad) l.length c, .func (.func 26) #[] #[.pointer (some ⟨W.heap.size, 0, none⟩)], .func (.func 32) #[] #[.pointer (some ⟨X1.heap.size, 0, none⟩), .pointer (some ⟨X1.heap.size + 1, 0, none⟩)], .int .i64 (s.1.1 : Nat), encW s.1.2, undef, undef, undef, undef, undef, undef, undef, undef, undef, undef, undef, undef, undef, undef, undef, undef, undef, undef, undef, undef, u52, undef], defers := [] })
          (fun s a' _ X Y row hs hg hr => by obtain ⟨Bq, h1, h3⟩ := hs; exact ⟨Bq, own_cells (β := Unit) () X Y row h1 hg hr, h3⟩)
          ?assign2 ?body2 ?done2 ?stop2
        case assign2 =>
          rintro l' pre' s X K ⟨hO, hMX, hKX, hkX⟩ hK
          have hsX := Nat.le_trans hs1 hKX.1.size
          dsimp only [encW]
          gi_wp2
          exact hK _ _ ((KeepsOthers.alloc _ _).from _) (Kp.alloc ⟨Below.refl _ _, KT.refl _⟩ hsX _) ⟨hO.alloc _, hMX.keeps (KeepsOthers.alloc _ _), hKX.alloc hsX _, hkX.trans ((KeepsOthers.alloc _ _).from _)⟩ ⟨X.heap.size, heap_alloc_new X _, rfl⟩
        case body2 =>
          rintro l2 pre' s a' X2 hl2 ⟨r2, hr2⟩ ⟨hO2, hM2, hKX2, hkX2⟩ ⟨Bq, bq, rfl⟩ hlt2
          have hs2 : w.heap.size ≤ X2.heap.size := Nat.le_trans hs1 hKX2.1.size
          have cq := (cell_of_row X2 Bq 1 _ _ _ bq).trans rfl
          have ca := (cell_of_row X2 (Bi + 1) 0 _ _ _ (hKX2.2.2 _ _ _ _ ba (by decide) (by decide))).trans rfl
          replace cq : X2.cell? ⟨Bq, 1, none⟩ = some (.slice s.1.2.A s.1.2.n s.1.2.c) := cq
          replace ca : X2.cell? ⟨Bi + 1, 0, none⟩ = some (.int .i64 x.2.ch) := ca
          gi_wp2_with (fail)
          refine wpIn_mono (Q := fun e a' X => e = .normal ∧ a' = { tmps := #[.slice (some ad) l.length c, .pointer (some ⟨w.heap.size, 0, none⟩), .slice none 0 0, .pointer (some ⟨w.heap.size + 1, 0, none⟩), undef, .pointer (some ⟨W.heap.size, 0, none⟩), .pointer (some ⟨Bi, 0, none⟩), .pointer (some ⟨Bi + 1, 0, none⟩), undef, .pointer (some ⟨Bq, 0, none⟩), undef, .slice (some ad) l.length c, .bool true, .bool false, undef, .slice (some ad) l.length c, .int .i64 l.length, .int .i64 k, .bool true, .pointer (some (ad.add (k * 2))), .agg #[.int .i64 z.id, .slice z.A z.n z.c], .pointer (some ⟨W.heap.size, 1, none⟩), .slice z.A z.n z.c, .func (.func 31) #[] #[.pointer (some ⟨W.heap.size + 1, 0, none⟩)], .func (.func 30) #[] #[.pointer (some ⟨W.heap.size + 1 + 1, 0, none⟩), .pointer (some ⟨W.heap.size + 1 + 1 + 1, 0, none⟩)], .int .i64 (x.1 : Nat), encA x.2, .slice (some ad) l.length c, .func (.func 26) #[] #[.pointer (some ⟨W.heap.size, 0, none⟩)], .func (.func 32) #[] #[.pointer (some ⟨X1.heap.size, 0, none⟩), .pointer (some ⟨X1.heap.size + 1, 0, none⟩)], .int .i64 (s.1.1 : Nat), encW s.1.2, .pointer (some ⟨Bq, 1, none⟩), .slice s.1.2.A s.1.2.n s.1.2.c, .pointer (some ⟨Bi + 1, 0, none⟩), .int .i64 x.2.ch, .func (.func 33) #[] #[.pointer (some ⟨X2.heap.size, 0, none⟩)], .func (.func 30) #[] #[.pointer (some ⟨X2.heap.size + 1, 0, none⟩), .pointer (some ⟨X2.heap.size + 1 + 1, 0, none⟩)], undef, undef, undef, undef, undef, undef, undef, undef, undef, undef, undef, undef, undef, undef, u52, undef], defers := [] } ∧ X = (((X2.alloc (.cells #[.int .i64 x.2.ch] 3)).alloc (.cells #[.slice s.1.2.A s.1.2.n s.1.2.c] 36)).alloc (.cells #[.func (.func 33) #[] #[.pointer (some ⟨X2.heap.size, 0, none⟩)]] 54)).drew) ?region ?go
          case region =>
            have cq2 : ∀ o : Obj, (X2.drew.alloc o).cell? ⟨Bq, 1, none⟩ = some (.slice s.1.2.A s.1.2.n s.1.2.c) := fun o => pw_cell_below (below_alloc (below_drew (Below.refl _ X2)) o) cq
            have cq3 : ∀ o : Obj, (X2.alloc o).drew.cell? ⟨Bq, 1, none⟩ = some (.slice s.1.2.A s.1.2.n s.1.2.c) := fun o => pw_cell_below (below_drew (below_alloc (Below.refl _ X2) o)) cq
            have cq4 : ∀ o : Obj, (X2.alloc o).cell? ⟨Bq, 1, none⟩ = some (.slice s.1.2.A s.1.2.n s.1.2.c) := fun o => pw_cell_below (below_alloc (Below.refl _ X2) o) cq
            have hmx : Try.prog.follows .mixedOrders = true := by kernel_rfl
            gi_region_with_o (first | (refine ⟨trivial, ?_⟩; gi_at_call 27; refine (CallsIn.inRound l2 (CallsIn.inRound l1 (callsIn_wide.2 (receivers_any x.2.ch _)))).mono ?_; rintro e w2 ⟨rfl, rfl⟩) | (refine ⟨trivial, ?_⟩; gi_at_call 23; refine (CallsIn.inRound l2 (CallsIn.inRound l1 (callsIn_wide.2 (that23_any _ _ _ 33 _ _)))).mono ?_; rintro e w3 ⟨rfl, rfl⟩))
            all_goals gi_wp2
            all_goals fail
          case go =>
            rintro e a' X ⟨rfl, rfl, hX3⟩
            have hzl2 : s.1.1 < l.length := by have := (List.getElem?_eq_some_iff.1 s.2).1; have := HZL.out; omega
            obtain ⟨q1, q2, q3⟩ := HZ.out s.1.1 _ s.1.2 (List.getElem?_eq_getElem hzl2) s.2
            obtain ⟨aq, haq, haqz, haqr⟩ := rawA q3
            have bN3 : Boxed X X2.heap.size 3 (.int .i64 x.2.ch) := by rw [hX3]; exact ((Boxed.new X2 3 (.int .i64 x.2.ch)).alloc _).alloc _
            have bS3 : Boxed X (X2.heap.size + 1) 36 (.slice s.1.2.A aq.length s.1.2.c) := by
              rw [hX3, haq, ← q2]
              have h := Boxed.new (X2.alloc (.cells #[.int .i64 x.2.ch] 3)) 36 (.slice s.1.2.A s.1.2.n s.1.2.c)
              rw [World.size_alloc] at h
              exact h.alloc _
            have bH3 : Boxed X (X2.heap.size + 1 + 1) 54 (.func (.func 33) #[] #[.pointer (some ⟨X2.heap.size, 0, none⟩)]) := by
              rw [hX3]
              have h := Boxed.new ((X2.alloc (.cells #[.int .i64 x.2.ch] 3)).alloc (.cells #[.slice s.1.2.A s.1.2.n s.1.2.c] 36)) 54 (.func (.func 33) #[] #[.pointer (some ⟨X2.heap.size, 0, none⟩)])
              simp only [World.size_alloc] at h
              exact h
            have hK3 : Kp w.heap.size X2 X := by
              rw [hX3]
              have h := ((Kp.alloc ⟨Below.refl _ _, KT.refl _⟩ hs2 (.cells #[.int .i64 x.2.ch] 3)).alloc (by simp; omega) (.cells #[.slice s.1.2.A s.1.2.n s.1.2.c] 36)).alloc (by simp; omega) (.cells #[.func (.func 33) #[] #[.pointer (some ⟨X2.heap.size, 0, none⟩)]] 54)
              exact ⟨below_drew h.1, h.2⟩
            have hk3 : ∀ B, KeepsFrom B X2 X := by
              intro B
              rw [hX3]
              exact ((((KeepsOthers.alloc _ _).trans (KeepsOthers.alloc _ _)).trans (KeepsOthers.alloc _ _)).trans (KeepsOthers.drew _)).from _
            have hO3 : OutAt w.heap.size (w.heap.size + 1) X (acc1 ++ pre'.flatMap fun s : Sub zs => pairsQ z.id (x.1 : Nat) x.2.ch (l.getD s.1.1 z38)) := by rw [hX3]; exact ((hO2.alloc _).alloc _).alloc _
            have hM3 : Marks w.heap.size ds X := by
              rw [hX3]
              exact hM2.keeps ((((KeepsOthers.alloc _ _).trans (KeepsOthers.alloc _ _)).trans (KeepsOthers.alloc _ _)).trans (KeepsOthers.drew _))
            have hr3 : X.heap[l2]? = some (.loop r2) := by
              rw [hX3]
              exact heap_keep hr2 (below_drew (below_alloc (below_alloc (below_alloc (Below.refl _ _) _) _) _))
            have hacc2 : (acc1 ++ pre'.flatMap fun s : Sub zs => pairsQ z.id (x.1 : Nat) x.2.ch (l.getD s.1.1 z38)).length ≤ 5000 * (5000 * 5000) + 5000 * (5000 * 5000) + 5000 * 5000 := by
              rw [List.length_append]
              refine Nat.add_le_add hacc1 (Nat.le_trans (flatMap_len _ (arms l) _ (fun y _ => Nat.le_trans (pairsQ_len _ _ _ _) (arms_getD l _))) (Nat.mul_le_mul ?_ (by omega)))
              have := HZL.out
              omega
            have haql : aq.length ≤ arms l := by rw [haq]; exact arms_mem l _ (List.getElem_mem hzl2)
            obtain ⟨acc2, hac2⟩ : ∃ acc2, acc2 = acc1 ++ pre'.flatMap fun s : Sub zs => pairsQ z.id (x.1 : Nat) x.2.ch (l.getD s.1.1 z38) := ⟨_, rfl⟩
            rw [← hac2] at hO3 hacc2
            have HAC2 := Aside0.mk hac2
            have Q1 := Aside0.mk q1
            have hs3 : w.heap.size ≤ X.heap.size := Nat.le_trans hs2 hK3.1.size
            have hKw : Below w.heap.size w X := hK0.1.trans (hKX1.1.trans (hKX2.1.trans hK3.1))
            have c5X := hKX2.2.2 _ _ _ _ b51 (by decide) (by decide)
            have biX := hKX2.2.2 _ _ _ _ bi (by decide) (by decide)
            have baX := hKX2.2.2 _ _ _ _ ba (by decide) (by decide)
            clear hac2 q1 q2 q3 hX3
            dsimp only
            gi_wp2_with (fail)
            refine wpIn_rangeFunc_ownN (l₀ := l2) (r₀ := r2) rfl hr3 (by decide) (gf := 30) (lb := #[.pointer (some ⟨X2.heap.size + 1, 0, none⟩), .pointer (some ⟨X2.heap.size + 1 + 1, 0, none⟩)]) rfl trivial (enters_of Try.func30 (by kernel_rfl) rfl)
              (((armsR_stops 4 _ _ X2.heap.size w.heap.size s.1.2.A s.1.2.c aq x.2.ch (by omega) X bS3 bH3 bN3 (haqr.below hKw) hs3).inRound l1).inRound l2) Kp.t (Kp.b hs3) (Below.refl _ _) (fun _ => rfl)
              (fun pre'' Y => OutAt w.heap.size (w.heap.size + 1) Y (acc2 ++ pre''.map fun y => (⟨z.id, (x.1 : Nat), s.1.2.id, (y.1 : Nat), x.2.ch⟩ : S47)) ∧ (Marks w.heap.size ds Y ∧ (Kp w.heap.size X2 Y ∧ KeepsFrom W0.heap.size X2 Y)))
              (fun _ _ _ => False)
              (OwnFrom.and (own_out _ _ _ _) (OwnFrom.and (own_marks hM3.lt) (OwnFrom.and (own_Kp hs2 hs3) (ownFrom_keepsFrom hK3.1.size))))
              (fun _ _ _ _ _ hs _ _ => hs)
              ⟨by simpa using hO3, hM3, hK3, hk3 _⟩
              (fun y a' _ => a' = { tmps := #[.slice (some ad) l.length c, .pointer (some ⟨w.heap.size, 0, none⟩), .slice none 0 0, .pointer (some ⟨w.heap.size + 1, 0, none⟩), undef, .pointer (some ⟨W.heap.size, 0, none⟩), .pointer (some ⟨Bi, 0, none⟩), .pointer (some ⟨Bi + 1, 0, none⟩), undef, .pointer (some ⟨Bq, 0, none⟩), .int .i64 (y.1 : Nat), .slice (some ad) l.length c, .bool true, .bool false, undef, .slice (some ad) l.length c, .int .i64 l.length, .int .i64 k, .bool true, .pointer (some (ad.add (k * 2))), .agg #[.int .i64 z.id, .slice z.A z.n z.c], .pointer (some ⟨W.heap.size, 1, none⟩), .slice z.A z.n z.c, .func (.func 31) #[] #[.pointer (some ⟨W.heap.size + 1, 0, none⟩)], .func (.func 30) #[] #[.pointer (some ⟨W.heap.size + 1 + 1, 0, none⟩), .pointer (some ⟨W.heap.size + 1 + 1 + 1, 0, none⟩)], .int .i64 (x.1 : Nat), encA x.2, .slice (some ad) l.length c, .func (.func 26) #[] #[.pointer (some ⟨W.heap.size, 0, none⟩)], .func (.func 32) #[] #[.pointer (some ⟨X1.heap.size, 0, none⟩), .pointer (some ⟨X1.heap.size + 1, 0, none⟩)], .int .i64 (s.1.1 : Nat), encW s.1.2, .pointer (some ⟨Bq, 1, none⟩), .slice s.1.2.A s.1.2.n s.1.2.c, .pointer (some ⟨Bi + 1, 0, none⟩), .int .i64 x.2.ch, .func (.func 33) #[] #[.pointer (some ⟨X2.heap.size, 0, none⟩)], .func (.func 30) #[] #[.pointer (some ⟨X2.heap.size + 1, 0, none⟩), .pointer (some ⟨X2.heap.size + 1 + 1, 0, none⟩)], .int .i64 (y.1 : Nat), encA y.2, undef, undef, undef, undef, undef, undef, undef, undef, undef, undef, undef, undef, u52, undef], defers := [] })
              (fun _ _ _ _ _ _ hs _ _ => hs)
              ?assign3 ?body3 ?done3 ?stop3
            case assign3 =>
              rintro l' pre'' y Y K hI hK
              gi_wp2
              exact hK _ _ (KeepsFrom.refl _ _) ⟨Below.refl _ _, KT.refl _⟩ hI rfl
            case body3 =>
              rintro l' pre'' y a' Y hl' _ ⟨hO, hMY, hKY, hkY⟩ rfl hlt'
              have hsY3 := Nat.le_trans hs2 hKY.1.size
              obtain ⟨ys, hys⟩ : ∃ ys, ys = acc2 ++ pre''.map fun y => (⟨z.id, (x.1 : Nat), s.1.2.id, (y.1 : Nat), x.2.ch⟩ : S47) := ⟨_, rfl⟩
              rw [← hys] at hO
              have hxl : ys.length + 1 ≤ 2000000000000 := by rw [hys]; simp only [List.length_append, List.length_map]; omega
              have HYS := Aside0.mk hys
              clear hys
              obtain ⟨v, hv, hR⟩ := hO
              obtain ⟨_, inner, hown, hrep⟩ := hR
              have cv := hv.cell
              have c5 : Y.cell? ⟨W.heap.size, 0, none⟩ = some (.int .i64 z.id) := (cell_of_row Y _ 0 _ _ _ (hKY.2.2 _ _ _ _ c5X (by decide) (by decide))).trans rfl
              have ci : Y.cell? ⟨Bi, 0, none⟩ = some (.int .i64 (x.1 : Nat)) := (cell_of_row Y _ 0 _ _ _ (hKY.2.2 _ _ _ _ biX (by decide) (by decide))).trans rfl
              have caY : Y.cell? ⟨Bi + 1, 0, none⟩ = some (.int .i64 x.2.ch) := (cell_of_row Y _ 0 _ _ _ (hKY.2.2 _ _ _ _ baX (by decide) (by decide))).trans rfl
              have cqY : Y.cell? ⟨Bq, 0, none⟩ = some (.int .i64 s.1.2.id) := (cell_of_row Y _ 0 _ _ _ (hKY.2.2 _ _ _ _ bq (by decide) (by decide))).trans rfl
              gi_wp2_with (gi_at_builtin; refine wpListIn_append_own _ rfl _ _ 33 rfl w.heap.size 47 i0 _ 5 40 Try.underlying33 hi0 hz0 hz1 hz2 rfl (by decide) _ _ _ rfl (hown.alloc _) ⟨Y.heap.size, 0, none⟩ 1 1 (enc47 ⟨z.id, (x.1 : Nat), s.1.2.id, (y.1 : Nat), x.2.ch⟩) rfl rfl (World.news_of_block (heap_alloc_new Y _)) (by simp [enc47, Value.oneCell']) (by simp only [maxLen]; omega) (by omega) (by simp; omega) ?_; intro v' w1' hown' hgrow _; obtain ⟨g', cap', rfl⟩ := ownsRow_succ hown'; obtain ⟨hv1, hO4, hK4, hk4⟩ := out_push hsY3 (Nat.le_succ _) hv hown hrep hown' hgrow; have hc1 := hv1.cell; have hf1 := hv1.frozen)
              refine ⟨hk4.from _, hK4, ?_, hMY.keeps hk4, hKY.t hK4, hkY.trans (hk4.from _)⟩
              rw [List.map_append, ← List.append_assoc, ← HYS.out]
              exact hO4
            case done3 =>
              rintro ys Y rfl ⟨hO, hMY, hKY, hkY⟩
              have hq : acc2 ++ (selR (recvs x.2.ch) 0 aq).map (fun y => (⟨z.id, (x.1 : Nat), s.1.2.id, (y.1 : Nat), x.2.ch⟩ : S47)) = acc1 ++ (pre' ++ [s]).flatMap fun s : Sub zs => pairsQ z.id (x.1 : Nat) x.2.ch (l.getD s.1.1 z38) := by
                rw [HAC2.out, List.flatMap_append, List.append_assoc]
                congr 2
                rw [selR_raw (p := recvs x.2.ch) (q := recvX x.2.ch) (fun j => (⟨z.id, (x.1 : Nat), s.1.2.id, (j : Nat), x.2.ch⟩ : S47)) 0 aq l[s.1.1].f1 haq (fun j a b hx hy => by
                  obtain ⟨h1, h2⟩ := haqz j a b hx hy
                  simp only [recvs, recvX, h1, h2])]
                have hg : l.getD s.1.1 z38 = l[s.1.1] := by rw [List.getD_eq_getElem?_getD, List.getElem?_eq_getElem hzl2]; rfl
                simp only [List.flatMap_cons, List.flatMap_nil, List.append_nil, pairsQ, Q1.out, hg]
              rw [hq] at hO
              clear hq
              gi_wp2_with (fail)
              exact ⟨⟨hkY.size, fun b o hb => hkY.same b o (Nat.le_trans (Nat.le_trans hKX1.1.size hsY1) hb)⟩, hKY, hO, hMY, hKX2.t hKY, hkX2.trans hkY⟩
            case stop3 =>
              rintro c' pre X _ h
              exact h.elim
        case done2 =>
          rintro ys X hys ⟨hO, hMX, hKX, hkX⟩
          have hq : acc1 ++ ys.flatMap (fun s : Sub zs => pairsQ z.id (x.1 : Nat) x.2.ch (l.getD s.1.1 z38)) = acc ++ (pre ++ [x]).flatMap fun y => pairsA l z.id (y.1 : Nat) y.2.ch := by
            rw [HAC1.out, List.flatMap_append, List.append_assoc]
            congr 2
            have h1 : ys.flatMap (fun s : Sub zs => pairsQ z.id (x.1 : Nat) x.2.ch (l.getD s.1.1 z38)) = ((ys.map (·.1)).map (fun y => (y.1, ()))).flatMap (fun q => pairsQ z.id (x.1 : Nat) x.2.ch (l.getD q.1 z38)) := by
              rw [List.flatMap_map, List.flatMap_map]
            rw [h1, hys, selR_fst (p := others z.id) (q := fun q : S38 => q.f0 != z.id) (f := fun _ => ()) (g := fun _ => ()) 0 zs l HZL.out (fun j a b ha hb => ⟨by simp only [others, (HZ.out j a b ha hb).1], rfl⟩)]
            rw [List.flatMap_map]
            simp [pairsA]
          rw [hq] at hO
          clear hq
          gi_wp2_with (fail)
          exact ⟨hkX, hKX, ⟨hO, hKX1.t hKX⟩, hMX⟩
        case stop2 =>
          rintro c' pre' X _ h
          exact h.elim
      case done =>
        rintro D ys X hD rfl ⟨⟨hO, hKX⟩, hMX⟩ hDef
        have hq : acc ++ (selR (sends 0) 0 az).flatMap (fun y => pairsA l z.id (y.1 : Nat) y.2.ch) = (l.take (k + 1)).flatMap (pairsP l) := by
          rw [List.take_succ_eq_append_getElem hlt, List.flatMap_append, HACC.out]
          congr 1
          have h1 : (selR (sends 0) 0 az).flatMap (fun y => pairsA l z.id (y.1 : Nat) y.2.ch) = ((selR (sends 0) 0 az).map (fun y => (y.1, y.2.ch))).flatMap (fun q => pairsA l z.id (q.1 : Nat) q.2) := by
            rw [List.flatMap_map]
          rw [h1, selR_fst (p := sends 0) (q := sendX 0) (f := fun y : RA => y.ch) (g := fun y : S43 => y.f0) 0 az l[k].f1 hal (fun j a b ha hb => by
            obtain ⟨h1, h2⟩ := haz j a b ha hb
            simp only [sends, sendX, h1, h2, and_self])]
          rw [List.flatMap_map]
          simp [pairsP, Z1.out]
        rw [hq] at hO
        have hM1 : Marks w.heap.size ({ target := .collected D, args := #[] } :: ds) X := by
          refine ⟨List.pairwise_cons.2 ⟨fun d' hd' e => ?_, hMX.1⟩, fun d' hd' => ?_⟩
          · have := hM0.lt d' hd' D e.symm
            omega
          · rcases List.mem_cons.1 hd' with rfl | hd'
            · exact ⟨D, rfl, Nat.le_trans hs0 hD, hDef⟩
            · exact hMX.2 d' hd'
        clear hq
        go_wp2_with (fail)
        exact ⟨⟨k + 1, _, _, _, _, _, _, _, _, _, _, rfl, by omega, ⟨hK0.t hKX⟩, ⟨hO⟩, ⟨hM1⟩, ⟨hT0.trans hKX.2⟩⟩, by simp [intOf]; omega⟩
      case stop =>
        rintro D c' pre X _ _ h _
        exact h.elim
    · obtain rfl : k = l.length := by omega
      obtain ⟨v, hv, hR⟩ := HO.out
      rw [List.take_length] at hR
      have HR' := Aside0.mk hR
      have cv := hv.cell
      clear hR hv
      go_wp2_with (fail)
      refine leaves_marks (n₀ := w.heap.size) (v := v) (fun X => (results_tmp (fn := Try.f10) rfl _ Try.prog X).trans rfl) ds W HM.out ?_
      intro W' hK' hcs
      refine ⟨v, rfl, ?_, HK.out.1.trans hK'.1⟩
      refine Kd.R_mono (Kd.R_step (Kd.R_bound HR'.out) (fun k hk hlt => ?_)) (fun _ _ => trivial)
      obtain ⟨_, _, _, q, hq, cs, hc⟩ := hk
      rw [hc]
      exact hcs k _ _ _ hc

set_option maxRecDepth 100000 in
set_option maxHeartbeats 1000000 in
theorem pairs_no (A : Option Addr) (c : Nat) (l : List S38) (w : World) (hr : Kd.C k38 w A l.length l) (hc : l.length ≤ c) (hy : rightOf l = false) :
    Calls Try.prog 10 #[.slice A l.length c] w fun e w' => ∃ v, e = .returned v ∧ Kd.R k47 47 w' w.heap.size (fun _ => True) v [] ∧ Below w.heap.size w w' := by
  have HR := Aside0.mk hr
  have HY := Aside0.mk hy
  clear hr hy
  refine (callsIn_wide (n := 9)).1 ?_
  refine callsIn_of_wp_marks Try.func10 rfl trivial ?_ rfl
  simp only [Try.ntmps10, List.size_toArray, List.length_cons, List.length_nil, Nat.reduceAdd, Nat.reduceSub, Array.replicate_succ, Array.replicate_zero, List.push_toArray, List.append_toArray, List.nil_append, List.cons_append]
  refine wpIn_wide.2 ?_
  go_wp2_with (go_at_call 22; refine (right_any A c l _ (Kd.C_alloc (Kd.C_alloc HR.out _) _) hc).mono ?_; rw [HY.out]; rintro e w1 ⟨rfl, hb1⟩; have HB1 := Aside0.mk hb1; have c1 : w1.cell? ⟨w.heap.size + 1, 0, none⟩ = some (.slice none 0 0) := by { have h := Boxed.new (w.alloc (.cells #[.slice A l.length c] 22)) 33 (.slice none 0 0); rw [World.size_alloc] at h; exact Boxed.cell (heap_keep h hb1) }; clear hb1)
  refine leaves_marks (n₀ := w.heap.size) (v := .slice none 0 0) (fun X => (results_tmp (fn := Try.f10) rfl _ Try.prog X).trans rfl) [] w1 ⟨List.Pairwise.nil, by simp⟩ ?_
  intro W' hK' hcs
  exact ⟨_, rfl, Kd.R_nil _ _ _ _ _, ((below_alloc (below_alloc (Below.refl _ w) _) _).trans (HB1.out.mono (by simp; omega))).trans hK'.1⟩
def post_Pairs.f (l0 : List S38) : Option (List S47) := if l0.length + arms l0 ≤ 5000 then some (pairsOf l0) else none
theorem post_Pairs.calls (A0 : Option Addr) (c0 : Nat) (l0 : List S38) (r : List S47) (w : World) (hr0 : Kd.C k38 w A0 l0.length l0) (hc0 : l0.length ≤ c0) (h : post_Pairs.f l0 = some r) :
    Calls Try.prog 10 #[.slice A0 l0.length c0] w fun e w' => ∃ v0_ : Value, e = .returned v0_ ∧ Kd.R k47 47 w' w.heap.size (fun _ => True) v0_ r ∧ Below w.heap.size w w' := by
  unfold post_Pairs.f at h
  split at h
  · injection h with h
    subst h
    unfold pairsOf
    by_cases hy : rightOf l0 = true
    · rw [if_pos hy]
      exact pairs_yes A0 c0 l0 w hr0 hc0 (by assumption) hy
    · rw [if_neg hy]
      exact pairs_no A0 c0 l0 w hr0 hc0 (by simpa using hy)
  · cases h

end Go.Proofs.Ytokbonceeglciaa.Given
