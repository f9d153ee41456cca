/- script.word, field, taker, and what taker hands back: the numbers behind a line's first word, taken through pointers into one block. -/
import Derived.Test.YtmoebchaiokamaaDoorGivenH
import Derived.Deep.DeepCutAuto
namespace Go.Proofs.YtmoebchaiokamaaDoor.Given
open Go.RowKit Go.Proofs.YtmoebchaiokamaaDoorW.PrintWords Go.Proofs.YtmoebchaiokamaaDoorW.PrintLast Go.Proofs.YtmoebchaiokamaaDoorW.PrintMore Go.Proofs.YtmoebchaiokamaaDoor.Print
set_option linter.unusedVariables false
set_option linter.unusedSimpArgs false
theorem word_any (w : World) : Calls Tryd.prog 18 #[] w fun e w' => e = .returned (.iface 58 (.pointer (some ⟨w.heap.size, 0, none⟩))) ∧ w' = w.alloc (.cells #[.int .i64 170] 62) := by
  go_enter Tryd.func18, Tryd.ntmps18
  go_wp2
  go_ret
  exact ⟨rfl, rfl⟩
theorem field_any (w : World) : Calls Tryd.prog 35 #[] w fun e w' => e = .returned (.iface 58 (.pointer (some ⟨w.heap.size, 0, none⟩))) ∧ w' = w.alloc (.cells #[.int .i64 171] 62) := by
  go_enter Tryd.func35, Tryd.ntmps35
  go_wp2
  go_ret
  exact ⟨rfl, rfl⟩
theorem taker_any (A : Option Addr) (n c : Nat) (w : World) : Calls Tryd.prog 25 #[.slice A n c] w fun e w' => e = .returned (.func (.func 34) #[] #[.pointer (some ⟨w.heap.size, 0, none⟩)]) ∧ w' = w.alloc (.cells #[.slice A n c] 52) := by
  have hmf : ∀ (fn : Fn) (first cap : Array Value) (w : World), (Instr.makeFunc fn first cap).run Tryd.prog w = .ok (.func fn first cap) w := fun _ _ _ _ => rfl
  go_enter Tryd.func25, Tryd.ntmps25
  go_wp2
  go_ret
  exact ⟨rfl, rfl⟩
/-- Numbers laid at places of a row of cells, as far as both go. -/
def layAll : Array Value → List Nat → List Int → Array Value
  | cs, o :: os, n :: ns => layAll (cs.setIfInBounds o (.int .i64 n)) os ns
  | cs, _, _ => cs
theorem layAll_size : ∀ (cs : Array Value) (os : List Nat) (ns : List Int), (layAll cs os ns).size = cs.size
  | cs, o :: os, n :: ns => by rw [layAll, layAll_size]; simp
  | cs, [], _ => by rw [layAll]; simp
  | cs, _ :: _, [] => by rw [layAll]; simp
theorem layAll_snoc : ∀ (os : List Nat) (ns : List Int) (cs : Array Value) (o : Nat) (n : Int), os[ns.length]? = some o → layAll cs os (ns ++ [n]) = (layAll cs os ns).setIfInBounds o (.int .i64 n)
  | [], ns, cs, o, n, h => by simp at h
  | a :: os, [], cs, o, n, h => by
    simp at h
    subst h
    cases os <;> simp [layAll]
  | a :: os, m :: ns, cs, o, n, h => by
    rw [List.cons_append, layAll, layAll]
    exact layAll_snoc os ns _ o n (by simpa using h)
/-- The numbers that so many words are; none, if they are not so many, or one is none. -/
def takeOf (n : Nat) (ws : List ByteArray) : Option (List Int) := if ws.length = n then numsIn ws else none
/-- What the taker answers, and what it leaves at the block g. -/
def TakeSays (w : World) (g : Nat) (T : TypeId) (cs : Array Value) (os : List Nat) (r : Option (List Int)) (e : Ending) (w' : World) : Prop := match r with
  | some ns => e = .returned .nilIface ∧ w'.heap[g]? = some (.cells (layAll cs os ns) T (0, 0)) ∧ Fr w.heap.size g w w'
  | none => (∃ a, e = .returned (.iface 58 (.pointer (some ⟨a, 0, none⟩))) ∧ w'.heap[a]? = some (.cells #[.int .i64 171] 62 (0, 0)) ∧ w.heap.size ≤ a) ∧ (∃ ns, w'.heap[g]? = some (.cells (layAll cs os ns) T (0, 0))) ∧ Fr w.heap.size g w w'
set_option maxRecDepth 100000 in
set_option maxHeartbeats 4000000 in
theorem take_any (g : Nat) (T : TypeId) (cs : Array Value) (os : List Nat) (Ap : Option Addr) (cp bx : Nat) (A1 : Option Addr) (c1 : Nat) (ws : List ByteArray) (w w0 : World)
    (hL : LW w0) (hB0 : Below w0.heap.size w0 w) (hg0 : w0.heap.size ≤ g) (hg : w.heap[g]? = some (.cells cs T (0, 0))) (hos : ∀ o ∈ os, ∃ v, cs[o]? = some v) (hn : os.length ≤ 7)
    (hp : ∀ (j o : Nat), os[j]? = some o → ∃ ad, Ap = some ad ∧ ad.block ≠ g ∧ w.cell? (ad.add j) = some (.pointer (some ⟨g, o, none⟩)))
    (hbx : w.heap[bx]? = some (.cells #[.slice A1 ws.length c1] 52 (0, 0))) (hbg : bx ≠ g) (hws : WordsIn w A1 ws) (hA1 : ∀ ad, A1 = some ad → ad.block ≠ g) (hl : ws.length ≤ 4294967296) (hsz : ∀ t ∈ ws, t.size ≤ 281474976710656) :
    Calls Tryd.prog 34 #[.slice Ap os.length cp, .pointer (some ⟨bx, 0, none⟩)] w (TakeSays w g T cs os (takeOf os.length ws)) := by
  have HL := Aside0.mk hL
  have HB0 := Aside0.mk hB0
  have HG0 := Aside0.mk hg0
  have HOS := Aside0.mk hos
  have HP := Aside0.mk hp
  have HBX := Aside0.mk hbx
  have HBG := Aside0.mk hbg
  have HWS := Aside0.mk hws
  have HA1 := Aside0.mk hA1
  have HSZ := Aside0.mk hsz
  have BG := Aside0.mk hg
  have y0 : w.cell? ⟨bx, 0, none⟩ = some (.slice A1 ws.length c1) := (blk_cell hbx 0).trans rfl
  clear hL hB0 hg0 hg hos hp hbx hbg hws hA1 hsz
  go_enter Tryd.func34, Tryd.ntmps34
  by_cases hlen : ws.length = os.length
  · have hq : ((os.length : Int) != (ws.length : Int)) = false := by rw [bne_eq_false_iff_eq]; omega
    have HLEN := Aside0.mk hlen
    have HT : Aside0 (takeOf os.length ws = numsIn ws) := ⟨if_pos hlen⟩
    clear hlen
    go_wp2_with (fail)
    go_loopw [16] (fun v16 wr => ∃ (a : Nat) (ns : List Int), v16 = .int .i64 a ∧ a ≤ os.length ∧ Aside0 (ns.length = a) ∧ Aside0 (numsIn ws = (numsIn (ws.drop a)).map (ns ++ ·)) ∧ Aside0 (wr.heap[g]? = some (.cells (layAll cs os ns) T (0, 0))) ∧ Aside0 (Fr w.heap.size g w wr)) (fun v16 _ => os.length - (intOf v16).toNat)
    case atStart => exact ⟨0, [], rfl, by omega, ⟨rfl⟩, ⟨by rw [List.drop_zero]; cases numsIn ws <;> simp⟩, ⟨by cases os <;> exact BG.out⟩, ⟨Fr.refl _ _ _⟩⟩
    case round =>
      clear BG
      obtain ⟨a, ns, rfl, ha, HNL, HN, BG, FR⟩ := hrel
      by_cases hlt : a < os.length
      · obtain ⟨o, ho⟩ : ∃ o, os[a]? = some o := ⟨_, List.getElem?_eq_getElem hlt⟩
        have hws := HLEN.out
        obtain ⟨t, ht⟩ : ∃ t, ws[a]? = some t := ⟨_, List.getElem?_eq_getElem (by omega)⟩
        obtain ⟨ad, rfl, hne, hc⟩ := HP.out a o ho
        obtain ⟨ad1, hA1, hw⟩ := HWS.out a t ht
        have had1 := HA1.out ad1 hA1
        subst hA1
        have x0 : wr.cell? (ad.add a) = some (.pointer (some ⟨g, o, none⟩)) := FR.out.cell hc (Nat.le_refl _) (by rw [add_block]; exact hne)
        have x1 : wr.cell? ⟨bx, 0, none⟩ = some (.slice (some ad1) ws.length c1) := FR.out.cell ((blk_cell HBX.out 0).trans rfl) (Nat.le_refl _) HBG.out
        have x2 : wr.cell? (ad1.add a) = some (.string t) := FR.out.cell hw (Nat.le_refl _) (by rw [add_block]; exact had1)
        have HTS := Aside0.mk (HSZ.out t (List.mem_of_getElem? ht))
        have HLW : Aside0 (LW wr) := ⟨HL.out.below (HB0.out.trans (FR.out.below HB0.out.size HG0.out))⟩
        have HDR : Aside0 (ws.drop a = t :: ws.drop (a + 1)) := ⟨by obtain ⟨hl, rfl⟩ := List.getElem?_eq_some_iff.1 ht; exact List.drop_eq_getElem_cons hl⟩
        have HO := Aside0.mk ho
        have halt : a < ws.length := by omega
        clear hc hw ht ho hne had1 hws
        cases hn0 : numOf t with
        | none =>
          have HNN := Aside0.mk hn0
          have HR : Aside0 (takeOf os.length ws = none) := ⟨by rw [HT.out, HN.out, HDR.out, numsIn, HNN.out]; rfl⟩
          clear hn0
          go_wp2_with (first
            | (go_at_call 36; refine (number_no t HNN.out _ HLW.out HTS.out).mono ?_; rintro e w3 ⟨⟨v3, rfl⟩, hb⟩; have NB := Aside0.mk hb; clear hb)
            | (go_at_call 35; refine (field_any _).mono ?_; rintro e w4 ⟨rfl, hw4⟩; have HW4 := Aside0.mk hw4; clear hw4))
          go_ret
          rw [HR.out]
          have hW4 := HW4.out
          subst hW4
          have FR3 := FR.out.trans (Fr.of_below (NB.out.mono FR.out.size))
          exact ⟨⟨_, rfl, heap_alloc_new _ _, FR3.size⟩, ⟨ns, blk_below BG.out (below_alloc NB.out _)⟩, FR3.trans (Fr.of_below ((bel1 _ _).mono FR3.size))⟩
        | some n =>
          have HNN := Aside0.mk hn0
          obtain ⟨v, hv⟩ := HOS.out o (List.mem_of_getElem? HO.out)
          have HOL : Aside0 (o < (layAll cs os ns).size) := ⟨by rw [layAll_size]; exact (Array.getElem?_eq_some_iff.1 hv).1⟩
          have HN2 : Aside0 (numsIn ws = (numsIn (ws.drop (a + 1))).map ((ns ++ [n]) ++ ·)) := ⟨by rw [HN.out, HDR.out, numsIn, HNN.out]; cases numsIn (ws.drop (a + 1)) <;> simp⟩
          clear hn0 hv
          go_wp2_with (go_at_call 36; refine (number_yes t n HNN.out _ HLW.out HTS.out).mono ?_; rintro e w3 ⟨rfl, hb⟩; have NB := Aside0.mk hb; clear hb; have BG3 := Aside0.mk (blk_below BG.out NB.out); have x4 : w3.cell? ⟨g, o, none⟩ = some ((layAll cs os ns)[o]'HOL.out) := (blk_cell BG3.out o).trans (Array.getElem?_eq_getElem HOL.out); have x5 : w3.frozen? ⟨g, o, none⟩ = false := Lib.frozen_of_heap BG3.out o)
          have FR3 := Aside0.mk (fr_set (FR.out.trans (Fr.of_below (NB.out.mono FR.out.size))) o (.int .i64 n))
          have BG4 : Aside0 ((w3.setCell ⟨g, o, none⟩ (.int .i64 n)).heap[g]? = some (.cells (layAll cs os (ns ++ [n])) T (0, 0))) := ⟨blk_put BG3.out o _ (layAll_snoc os ns cs o n (by rw [HNL.out]; exact HO.out)).symm⟩
          go_roundw
          case rel => exact ⟨a + 1, ns ++ [n], by go_num, by omega, ⟨by rw [List.length_append, HNL.out]; rfl⟩, HN2, BG4, FR3⟩
          case measure => simp [intOf]; omega
      · obtain rfl : a = os.length := by omega
        have HR : Aside0 (takeOf os.length ws = some ns) := ⟨by rw [HT.out, HN.out, List.drop_of_length_le (by rw [HLEN.out]; exact Nat.le_refl _)]; simp [numsIn]⟩
        go_wp2_with (fail)
        go_ret
        rw [HR.out]
        exact ⟨rfl, BG.out, FR.out⟩
  · have hq : ((os.length : Int) != (ws.length : Int)) = true := by rw [bne_iff_ne]; omega
    have HT : Aside0 (takeOf os.length ws = none) := ⟨if_neg hlen⟩
    clear hlen
    go_wp2_with (go_at_call 35; refine (field_any _).mono ?_; rintro e w4 ⟨rfl, hw4⟩; have HW4 := Aside0.mk hw4; clear hw4)
    go_ret
    rw [HT.out]
    have hW4 := HW4.out
    subst hW4
    exact ⟨⟨_, rfl, heap_alloc_new _ _, Nat.le_refl _⟩, ⟨[], by cases os <;> exact blk_below BG.out (bel1 _ _)⟩, Fr.of_below (bel1 _ _)⟩
end Go.Proofs.YtmoebchaiokamaaDoor.Given
