/- The contracts of scan.words, scan.signs, scan.Text, scan.Kind and scan.run, which the print does not take. -/
import Derived.Test.YtmingnhhmaclaaaProg
import Derived.Test.YtmingnhhmaclaaaWWords
import Derived.WalkKit
import Derived.KernelRfl
import Derived.LoopTactic
import Derived.Deep.LoopGhost
import Derived.Laws.Rows
import Derived.Laws.Tables
import Derived.Deep.WholeRow
namespace Go.Proofs.Ytmingnhhmaclaaa.Given
open Go.RowKit Go.Proofs.YtmingnhhmaclaaaW.PrintWords

def wordsS : List ByteArray := [⟨#[97, 114, 114, 97, 121]⟩, ⟨#[98, 101, 103, 105, 110]⟩, ⟨#[98, 111, 111, 108]⟩, ⟨#[99, 97, 115, 101]⟩, ⟨#[99, 104, 97, 110]⟩, ⟨#[101, 108, 115, 101]⟩, ⟨#[102, 97, 108, 115, 101]⟩, ⟨#[102, 105, 108, 108]⟩, ⟨#[105, 102]⟩, ⟨#[105, 110, 116]⟩, ⟨#[108, 101, 110]⟩, ⟨#[109, 97, 107, 101]⟩, ⟨#[111, 102]⟩, ⟨#[112, 114, 111, 103]⟩, ⟨#[114, 101, 116, 117, 114, 110]⟩, ⟨#[115, 101, 108, 101, 99, 116]⟩, ⟨#[116, 114, 117, 101]⟩, ⟨#[116, 121, 112, 101]⟩, ⟨#[118, 97, 108]⟩, ⟨#[118, 97, 114]⟩, ⟨#[119, 104, 105, 108, 101]⟩]
def signsS : List ByteArray := [⟨#[40]⟩, ⟨#[41]⟩, ⟨#[91]⟩, ⟨#[93]⟩, ⟨#[123]⟩, ⟨#[125]⟩, ⟨#[44]⟩, ⟨#[59]⟩, ⟨#[58]⟩, ⟨#[46]⟩, ⟨#[61]⟩, ⟨#[61, 61]⟩, ⟨#[33, 61]⟩, ⟨#[60]⟩, ⟨#[60, 61]⟩, ⟨#[62]⟩, ⟨#[62, 61]⟩, ⟨#[43]⟩, ⟨#[45]⟩, ⟨#[42]⟩, ⟨#[47]⟩, ⟨#[37]⟩, ⟨#[38, 38]⟩, ⟨#[124, 124]⟩, ⟨#[33]⟩, ⟨#[60, 45]⟩, ⟨#[60, 45, 61]⟩]
def wordsA : Array Value := (wordsS.map Value.string).toArray
def signsA : Array Value := (signsS.map Value.string).toArray
theorem wordsA_size : wordsA.size = 21 := rfl
theorem signsA_size : signsA.size = 27 := rfl

theorem wpList_build_as {P : Program} {ops : Array Oper} {rest : List Oper} {o : Oper} {a : Act} {w : World} {Q : Exit → Act → World → Prop} (hg : o.guard = none) (t : TypeId) (parts : Array (Nat × Operand)) (ho : o.op = .build t parts) (cs : Array Value)
    (hf : P.built t (parts.map fun (i, x) => (i, a.eval x)).toList = some cs)
    (h : wpList P ops Q rest (a.put o.dst (.agg cs)) w) : wpList P ops Q (o :: rest) a w :=
  wpList_build hg t parts ho (by rw [hf]; rfl) (by rw [hf]; exact h)

set_option maxHeartbeats 400000 in
theorem words_any (w : World) : Calls Try.prog 18 #[] w fun e w' => e = .returned (.agg wordsA) ∧ w' = w.alloc (.cells wordsA 43) := by
  have hst : ∀ c : Array Value, c.size = 21 → (storeCells ⟨w.heap.size, 0, none⟩ wordsA.toList).run Try.prog (w.alloc (.cells c 43)) = .ok () (w.alloc (.cells wordsA 43)) :=
    fun c hc => run_storeCells_new w 43 c wordsA (by kernel_rfl) (by rw [hc]; rfl) (by decide +kernel)
  go_enter Try.func18, Try.ntmps18
  go_wp2_with (refine wpList_build_as rfl 43 _ rfl wordsA (by kernel_rfl) ?_)
  refine bodyPost_ret (results_cell_row rfl _ _ w.heap.size 43 wordsA (0,0) _ rfl (heap_alloc_new _ _) Try.underlying43 rfl (by kernel_rfl)) rfl ?_
  exact ⟨rfl, rfl⟩
set_option maxHeartbeats 400000 in
theorem signs_any (w : World) : Calls Try.prog 19 #[] w fun e w' => e = .returned (.agg signsA) ∧ w' = w.alloc (.cells signsA 45) := by
  have hst : ∀ c : Array Value, c.size = 27 → (storeCells ⟨w.heap.size, 0, none⟩ signsA.toList).run Try.prog (w.alloc (.cells c 45)) = .ok () (w.alloc (.cells signsA 45)) :=
    fun c hc => run_storeCells_new w 45 c signsA (by kernel_rfl) (by rw [hc]; rfl) (by decide +kernel)
  go_enter Try.func19, Try.ntmps19
  go_wp2_with (refine wpList_build_as rfl 45 _ rfl signsA (by kernel_rfl) ?_)
  refine bodyPost_ret (results_cell_row rfl _ _ w.heap.size 45 signsA (0,0) _ rfl (heap_alloc_new _ _) Try.underlying45 rfl (by kernel_rfl)) rfl ?_
  exact ⟨rfl, rfl⟩


theorem store_prev {P : Program} (W : World) (B : Nat) (hB : W.heap.size = B) (t : TypeId) (c c' : Array Value) (o : Obj) (ho : c.size = c'.size) (h1 : c'.all (·.oneCell') = true) :
    (storeCells ⟨B, 0, none⟩ c'.toList).run P ((W.alloc (.cells c t)).alloc o) = .ok () ((W.alloc (.cells c' t)).alloc o) := by
  subst hB
  have hg : ((W.alloc (.cells c t)).alloc o).heap[W.heap.size]? = some (.cells c t (0, 0)) := heap_alloc2_old W _ _
  have h := run_storeCells_from (P := P) W.heap.size t c'.toList 0 c ((W.alloc (.cells c t)).alloc o) hg (by simp; omega) (fun v hv => (Array.all_eq_true_iff_forall_mem.1 h1) v (by simpa using hv))
  rw [h]
  congr 1
  simp only [List.take_zero, List.nil_append, Array.toArray_toList, World.setRow, World.alloc]
  congr 1
  apply Array.ext_getElem?
  intro i
  rw [Array.getElem?_modify]
  rcases Nat.lt_trichotomy i W.heap.size with hi | hi | hi
  · rw [if_neg (by omega)]
    simp [Array.getElem?_push, show i ≠ W.heap.size by omega, show i ≠ W.heap.size + 1 by omega]
  · subst hi
    simp [Array.getElem?_push]
  · rw [if_neg (by omega)]
    simp [Array.getElem?_push, show i ≠ W.heap.size by omega]
theorem store_last {P : Program} (W : World) (B : Nat) (hB : W.heap.size = B) (t : TypeId) (c c' : Array Value) (hi : (P.info? t).map (·.size) = some c'.size) (ho : c.size = c'.size) (h1 : c'.all (·.oneCell') = true) :
    (storeCells ⟨B, 0, none⟩ c'.toList).run P (W.alloc (.cells c t)) = .ok () (W.alloc (.cells c' t)) := by
  subst hB
  exact run_storeCells_new W t c c' hi ho h1
theorem cell_prev (W : World) (B : Nat) (hB : W.heap.size = B) (t : TypeId) (c : Array Value) (o : Obj) (i : Nat) : ((W.alloc (.cells c t)).alloc o).cell? ⟨B, i, none⟩ = c[i]? := by
  subst hB
  exact cell_of_row _ _ i c t (0, 0) (heap_alloc2_old W _ _)
theorem cell_last (W : World) (B : Nat) (hB : W.heap.size = B) (t : TypeId) (c : Array Value) (i : Nat) : (W.alloc (.cells c t)).cell? ⟨B, i, none⟩ = c[i]? := by
  subst hB
  exact cell_of_row _ _ i c t (0, 0) (heap_alloc_new W _)
theorem wordsA_at (i : Nat) (h : i < 21) : wordsA[i]? = some (.string (wordsS.getD i ⟨#[]⟩)) := by
  have h' : i < wordsS.length := h
  simp [wordsA, List.getElem?_eq_getElem h', List.getD_eq_getElem?_getD]
theorem signsA_at (i : Nat) (h : i < 27) : signsA[i]? = some (.string (signsS.getD i ⟨#[]⟩)) := by
  have h' : i < signsS.length := h
  simp [signsA, List.getElem?_eq_getElem h', List.getD_eq_getElem?_getD]
attribute [irreducible] wordsS signsS wordsA signsA

theorem ret_str {a b : ByteArray} (h : a = b) : Ending.returned (.string a) = .returned (.string b) := by rw [h]
theorem below4 (w : World) (a b c d : Obj) : Below w.heap.size w ((((w.alloc a).alloc b).alloc c).alloc d) :=
  ((((Below.refl _ w).alloc (Nat.le_refl _) _).alloc (by simp) _).alloc (by simp; omega) _).alloc (by simp; omega) _

set_option maxHeartbeats 400000 in
theorem text_a (k : Int) (w : World) (h1 : 10 ≤ k) (h2 : k < 31) : Calls Try.prog 9 #[.int .i64 k] w fun e w' => e = .returned (.string (wordsS.getD (k - 10).toNat ⟨#[]⟩)) ∧ Below w.heap.size w w' := by
  have s1 : ∀ (W : World) (B : Nat) (c : Array Value) (o : Obj), W.heap.size = B → c.size = 21 → (storeCells ⟨B, 0, none⟩ wordsA.toList).run Try.prog ((W.alloc (.cells c 43)).alloc o) = .ok () ((W.alloc (.cells wordsA 43)).alloc o) :=
    fun W B c o hB hc => store_prev W B hB 43 c wordsA o (by rw [hc, wordsA_size]) (by decide +kernel)
  have s2 : ∀ (W : World) (B : Nat) (c : Array Value), W.heap.size = B → c.size = 27 → (storeCells ⟨B, 0, none⟩ signsA.toList).run Try.prog (W.alloc (.cells c 45)) = .ok () (W.alloc (.cells signsA 45)) :=
    fun W B c hB hc => store_last W B hB 45 c signsA (by kernel_rfl) (by rw [hc, signsA_size]) (by decide +kernel)
  have z1 := wordsA_size
  have z2 := signsA_size
  have h3 : 0 ≤ k - 10 := by omega
  have h4 : k - 10 < 21 := by omega
  have hc : ∀ (W : World) (B : Nat) (o : Obj), W.heap.size = B → ((W.alloc (.cells wordsA 43)).alloc o).cell? ⟨B, (k - 10).toNat, none⟩ = some (.string (wordsS.getD (k - 10).toNat ⟨#[]⟩)) :=
    fun W B o hB => (cell_prev W B hB 43 wordsA o _).trans (wordsA_at _ (by omega))
  go_enter Try.func9, Try.ntmps9
  go_wp2_with (first | (go_at_call 18; refine (words_any _).mono ?_; rintro e w' ⟨rfl, rfl⟩) | (go_at_call 19; refine (signs_any _).mono ?_; rintro e w' ⟨rfl, rfl⟩))
  go_ret
  exact ⟨ret_str (by simp), below4 _ _ _ _ _⟩

set_option maxHeartbeats 400000 in
theorem text_b (k : Int) (w : World) (h1 : 40 ≤ k) (h2 : k < 67) : Calls Try.prog 9 #[.int .i64 k] w fun e w' => e = .returned (.string (signsS.getD (k - 40).toNat ⟨#[]⟩)) ∧ Below w.heap.size w w' := by
  have s1 : ∀ (W : World) (B : Nat) (c : Array Value) (o : Obj), W.heap.size = B → c.size = 21 → (storeCells ⟨B, 0, none⟩ wordsA.toList).run Try.prog ((W.alloc (.cells c 43)).alloc o) = .ok () ((W.alloc (.cells wordsA 43)).alloc o) :=
    fun W B c o hB hc => store_prev W B hB 43 c wordsA o (by rw [hc, wordsA_size]) (by decide +kernel)
  have s2 : ∀ (W : World) (B : Nat) (c : Array Value), W.heap.size = B → c.size = 27 → (storeCells ⟨B, 0, none⟩ signsA.toList).run Try.prog (W.alloc (.cells c 45)) = .ok () (W.alloc (.cells signsA 45)) :=
    fun W B c hB hc => store_last W B hB 45 c signsA (by kernel_rfl) (by rw [hc, signsA_size]) (by decide +kernel)
  have z1 := wordsA_size
  have z2 := signsA_size
  have h3 : 0 ≤ k - 40 := by omega
  have h4 : k - 40 < 27 := by omega
  have hc : ∀ (W : World) (B : Nat), W.heap.size = B → (W.alloc (.cells signsA 45)).cell? ⟨B, (k - 40).toNat, none⟩ = some (.string (signsS.getD (k - 40).toNat ⟨#[]⟩)) :=
    fun W B hB => (cell_last W B hB 45 signsA _).trans (signsA_at _ (by omega))
  go_enter Try.func9, Try.ntmps9
  go_wp2_with (first | (go_at_call 18; refine (words_any _).mono ?_; rintro e w' ⟨rfl, rfl⟩) | (go_at_call 19; refine (signs_any _).mono ?_; rintro e w' ⟨rfl, rfl⟩))
  go_ret
  exact ⟨ret_str (by simp), below4 _ _ _ _ _⟩

set_option maxHeartbeats 400000 in
theorem text_c1 (k : Int) (w : World) (h1 : k < 10) : Calls Try.prog 9 #[.int .i64 k] w fun e w' => e = .returned (.string ⟨#[]⟩) ∧ Below w.heap.size w w' := by
  have s1 : ∀ (W : World) (B : Nat) (c : Array Value) (o : Obj), W.heap.size = B → c.size = 21 → (storeCells ⟨B, 0, none⟩ wordsA.toList).run Try.prog ((W.alloc (.cells c 43)).alloc o) = .ok () ((W.alloc (.cells wordsA 43)).alloc o) :=
    fun W B c o hB hc => store_prev W B hB 43 c wordsA o (by rw [hc, wordsA_size]) (by decide +kernel)
  have s2 : ∀ (W : World) (B : Nat) (c : Array Value), W.heap.size = B → c.size = 27 → (storeCells ⟨B, 0, none⟩ signsA.toList).run Try.prog (W.alloc (.cells c 45)) = .ok () (W.alloc (.cells signsA 45)) :=
    fun W B c hB hc => store_last W B hB 45 c signsA (by kernel_rfl) (by rw [hc, signsA_size]) (by decide +kernel)
  have z1 := wordsA_size
  have z2 := signsA_size
  go_enter Try.func9, Try.ntmps9
  go_wp2_with (first | (go_at_call 18; refine (words_any _).mono ?_; rintro e w' ⟨rfl, rfl⟩) | (go_at_call 19; refine (signs_any _).mono ?_; rintro e w' ⟨rfl, rfl⟩))
  go_ret
  exact ⟨rfl, below4 _ _ _ _ _⟩
set_option maxHeartbeats 400000 in
theorem text_c2 (k : Int) (w : World) (h1 : 31 ≤ k) (h2 : k < 40 ∨ 67 ≤ k) : Calls Try.prog 9 #[.int .i64 k] w fun e w' => e = .returned (.string ⟨#[]⟩) ∧ Below w.heap.size w w' := by
  have s1 : ∀ (W : World) (B : Nat) (c : Array Value) (o : Obj), W.heap.size = B → c.size = 21 → (storeCells ⟨B, 0, none⟩ wordsA.toList).run Try.prog ((W.alloc (.cells c 43)).alloc o) = .ok () ((W.alloc (.cells wordsA 43)).alloc o) :=
    fun W B c o hB hc => store_prev W B hB 43 c wordsA o (by rw [hc, wordsA_size]) (by decide +kernel)
  have s2 : ∀ (W : World) (B : Nat) (c : Array Value), W.heap.size = B → c.size = 27 → (storeCells ⟨B, 0, none⟩ signsA.toList).run Try.prog (W.alloc (.cells c 45)) = .ok () (W.alloc (.cells signsA 45)) :=
    fun W B c hB hc => store_last W B hB 45 c signsA (by kernel_rfl) (by rw [hc, signsA_size]) (by decide +kernel)
  have z1 := wordsA_size
  have z2 := signsA_size
  rcases h2 with h2 | h2
  all_goals
    go_enter Try.func9, Try.ntmps9
    go_wp2_with (first | (go_at_call 18; refine (words_any _).mono ?_; rintro e w' ⟨rfl, rfl⟩) | (go_at_call 19; refine (signs_any _).mono ?_; rintro e w' ⟨rfl, rfl⟩))
    go_ret
    exact ⟨rfl, below4 _ _ _ _ _⟩

/-- What scan.Text answers. -/
def textOf (k : Int) : ByteArray := if 10 ≤ k ∧ k < 31 then wordsS.getD (k - 10).toNat ⟨#[]⟩ else if 40 ≤ k ∧ k < 67 then signsS.getD (k - 40).toNat ⟨#[]⟩ else ⟨#[]⟩
theorem text_any (k : Int) (w : World) : Calls Try.prog 9 #[.int .i64 k] w fun e w' => e = .returned (.string (textOf k)) ∧ Below w.heap.size w w' := by
  unfold textOf
  by_cases ha : 10 ≤ k ∧ k < 31
  · rw [if_pos ha]; exact text_a k w ha.1 ha.2
  · rw [if_neg ha]
    by_cases hb : 40 ≤ k ∧ k < 67
    · rw [if_pos hb]; exact text_b k w hb.1 hb.2
    · rw [if_neg hb]
      by_cases hc : k < 10
      · exact text_c1 k w hc
      · exact text_c2 k w (by omega) (by omega)
def scan_Text.f (a0 : Int) : Option ByteArray := some (textOf a0)
theorem scan_Text.calls (a0 : Int) (r : ByteArray) (w : World) (h : scan_Text.f a0 = some r) : Calls Try.prog 9 #[.int .i64 a0] w fun e w' => e = .returned (.string r) ∧ Below w.heap.size w w' := by
  injection h with h
  subst h
  exact text_any a0 w

def kindFind (t : ByteArray) : Nat → Nat → Nat
  | 0, _ => 0
  | n + 1, k => if (textOf k).toList = t.toList then k else kindFind t n (k + 1)
theorem kindFind_yes (t : ByteArray) (n k : Nat) (hn : 0 < n) (h : (textOf k).toList = t.toList) : kindFind t n k = k := by
  obtain ⟨m, rfl⟩ : ∃ m, n = m + 1 := ⟨n - 1, by omega⟩
  simp [kindFind, h]
theorem kindFind_no (t : ByteArray) (n k : Nat) (hn : 0 < n) (h : ¬ (textOf k).toList = t.toList) : kindFind t n k = kindFind t (n - 1) (k + 1) := by
  obtain ⟨m, rfl⟩ : ∃ m, n = m + 1 := ⟨n - 1, by omega⟩
  simp [kindFind, h]
theorem kindFind_lt (t : ByteArray) : ∀ n k : Nat, kindFind t n k ≤ n + k
  | 0, _ => by simp [kindFind]
  | n + 1, k => by
    unfold kindFind
    split
    · omega
    · have := kindFind_lt t n (k + 1); omega
/-- What scan.Kind answers. -/
def kindOf (t : ByteArray) : Int := if t.toList = [] then 0 else (kindFind t 67 0 : Nat)

theorem ret_int {k : IntKind} {a b : Int} (h : a = b) : Ending.returned (.int k a) = .returned (.int k b) := by rw [h]

set_option maxHeartbeats 400000 in
theorem kind_x (t : ByteArray) (w : World) (ht : t.toList.isEmpty = false) : Calls Try.prog 10 #[.string t] w fun e w' => e = .returned (.int .i64 (kindFind t 67 0 : Nat)) ∧ Below w.heap.size w w' := by
  go_enter Try.func10, Try.ntmps10
  go_wp2_with (first | (go_at_call 19; refine (signs_any _).mono ?_; rintro e w' ⟨rfl, rfl⟩))
  go_loopw [9] (fun i wr => ∃ k : Nat, k ≤ 67 ∧ i = .int .i64 k ∧ kindFind t 67 0 = kindFind t (67 - k) k ∧ Below w.heap.size w wr) (fun i _ => 67 - (intOf i).toNat)
  case atStart => exact ⟨0, by omega, rfl, rfl, (Below.refl _ w).alloc (Nat.le_refl _) _⟩
  case round =>
    obtain ⟨k, hk, rfl, hf, hb⟩ := hrel
    have HF : Hid (kindFind t 67 0 = kindFind t (67 - k) k) := hf
    clear hf
    by_cases hlt : k < 67
    · by_cases he : (textOf k).toList = t.toList
      · have HE : Hid ((textOf k).toList = t.toList) := he
        have he' : ((textOf k).toList == t.toList) = true := beq_iff_eq.2 he
        clear he
        go_wp2_with (first | (go_at_call 9; refine (text_any _ _).mono ?_; rintro e w' ⟨rfl, hb2⟩))
        go_ret
        exact ⟨ret_int (by rw [HF, kindFind_yes t _ _ (by omega) HE]), below_then hb hb.size hb2⟩
      · have he' : ((textOf k).toList == t.toList) = false := beq_eq_false_iff_ne.2 he
        go_wp2_with (first | (go_at_call 9; refine (text_any _ _).mono ?_; rintro e w' ⟨rfl, hb2⟩))
        go_roundw
        case rel => exact ⟨k + 1, by omega, by go_num, by rw [HF, kindFind_no t _ _ (by omega) he]; congr 1, below_then hb hb.size hb2⟩
        case measure => simp [intOf]; omega
    · go_wp2
      go_ret
      obtain rfl : k = 67 := by omega
      exact ⟨ret_int (by rw [HF]; rfl), hb⟩
set_option maxHeartbeats 400000 in
theorem kind_none (t : ByteArray) (w : World) (ht : t.toList.isEmpty = true) : Calls Try.prog 10 #[.string t] w fun e w' => e = .returned (.int .i64 0) ∧ Below w.heap.size w w' := by
  go_enter Try.func10, Try.ntmps10
  go_wp2
  go_ret
  exact ⟨rfl, Below.refl _ _⟩
theorem kind_any (t : ByteArray) (w : World) : Calls Try.prog 10 #[.string t] w fun e w' => e = .returned (.int .i64 (kindOf t)) ∧ Below w.heap.size w w' := by
  unfold kindOf
  by_cases h : t.toList = []
  · rw [if_pos h]; exact kind_none t w (by rw [h]; rfl)
  · rw [if_neg h]; exact kind_x t w (by simpa using h)
def scan_Kind.f (a0 : ByteArray) : Option Int := some (kindOf a0)
theorem scan_Kind.calls (a0 : ByteArray) (r : Int) (w : World) (h : scan_Kind.f a0 = some r) : Calls Try.prog 10 #[.string a0] w fun e w' => e = .returned (.int .i64 r) ∧ Below w.heap.size w w' := by
  injection h with h
  subst h
  exact kind_any a0 w

/-! ### run -/
def isLetter (c : Int) : Bool := decide (97 ≤ c) && decide (c ≤ 122) || (decide (65 ≤ c) && decide (c ≤ 90) || c == 95)
def isDigit (c : Int) : Bool := decide (48 ≤ c) && decide (c ≤ 57)
def notLine (c : Int) : Bool := c != 10
theorem ret_bool {a b : Bool} (h : a = b) : Ending.returned (.bool a) = .returned (.bool b) := by rw [h]
set_option maxHeartbeats 400000 in
theorem letter_any (c : Int) (w : World) : Calls Try.prog 34 #[.int .u8 c] w fun e w' => e = .returned (.bool (isLetter c)) ∧ w = w' := by
  by_cases h1 : 97 ≤ c <;> by_cases h2 : c ≤ 122 <;> by_cases h3 : 65 ≤ c <;> by_cases h4 : c ≤ 90 <;> (try omega) <;>
    (go_enter Try.func34, Try.ntmps34
     go_wp2
     all_goals
       go_ret
       exact ⟨ret_bool (by rw [Bool.eq_iff_iff]; simp [isLetter]; try omega), rfl⟩)
set_option maxHeartbeats 400000 in
theorem digit_any (c : Int) (w : World) : Calls Try.prog 36 #[.int .u8 c] w fun e w' => e = .returned (.bool (isDigit c)) ∧ w = w' := by
  by_cases h1 : 48 ≤ c <;> by_cases h2 : c ≤ 57 <;> (try omega) <;>
    (go_enter Try.func36, Try.ntmps36
     go_wp2
     go_ret
     exact ⟨ret_bool (by rw [Bool.eq_iff_iff]; simp [isDigit]; try omega), rfl⟩)
set_option maxHeartbeats 400000 in
theorem notLine_any (c : Int) (w : World) : Calls Try.prog 24 #[.int .u8 c] w fun e w' => e = .returned (.bool (notLine c)) ∧ w = w' := by
  go_enter Try.func24, Try.ntmps24
  go_wp2
  go_ret
  exact ⟨rfl, rfl⟩
set_option maxHeartbeats 400000 in
theorem wordy_any (c : Int) (w : World) : Calls Try.prog 39 #[.int .u8 c] w fun e w' => e = .returned (.bool (isLetter c || isDigit c)) ∧ w = w' := by
  by_cases hl : isLetter c = true
  · go_enter Try.func39, Try.ntmps39
    go_wp2_with (first | (go_at_call 34; refine (letter_any _ _).mono ?_; rintro e w' ⟨rfl, rfl⟩) | (go_at_call 36; refine (digit_any _ _).mono ?_; rintro e w' ⟨rfl, rfl⟩))
    go_ret
    exact ⟨ret_bool (by simp [hl]), rfl⟩
  · have hl' : isLetter c = false := by simpa using hl
    go_enter Try.func39, Try.ntmps39
    go_wp2_with (first | (go_at_call 34; refine (letter_any _ _).mono ?_; rintro e w' ⟨rfl, rfl⟩) | (go_at_call 36; refine (digit_any _ _).mono ?_; rintro e w' ⟨rfl, rfl⟩))
    go_ret
    exact ⟨ret_bool (by simp [hl']), rfl⟩

/-- The predicates that run is called with, by the function's number. -/
def predOf (F : Nat) (c : Int) : Bool := if F = 24 then notLine c else if F = 36 then isDigit c else isLetter c || isDigit c
theorem pred_any (F : Nat) (hF : F = 24 ∨ F = 36 ∨ F = 39) (c : Int) (w : World) : Calls Try.prog F #[.int .u8 c] w fun e w' => e = .returned (.bool (predOf F c)) ∧ w = w' := by
  rcases hF with rfl | rfl | rfl
  · exact notLine_any c w
  · exact digit_any c w
  · exact wordy_any c w
def runLen (F : Nat) (l : List Int) : Nat := (l.takeWhile (predOf F)).length
def scan_run.f (l0 : List Int) (a1 : Nat) : Option Int := if a1 = 24 ∨ a1 = 36 ∨ a1 = 39 then some (runLen a1 l0 : Nat) else none

theorem takeWhile_at (p : Int → Bool) : ∀ (l : List Int) (k : Nat), (∀ j, j < k → p (l.getD j 0) = true) → k ≤ l.length → (k = l.length ∨ p (l.getD k 0) = false) → (l.takeWhile p).length = k
  | [], k, _, hk, _ => by simp at hk; subst hk; rfl
  | x :: l, 0, _, _, h => by
    rcases h with h | h
    · simp at h
    · simp at h; simp [List.takeWhile, h]
  | x :: l, k + 1, h0, hk, h => by
    have hx := h0 0 (by omega)
    simp at hx
    have := takeWhile_at p l k (fun j hj => by simpa using h0 (j + 1) (by omega)) (by simpa using hk) (by simpa using h)
    simp [List.takeWhile, hx, this]

set_option maxHeartbeats 400000 in
theorem run_24 (A : Option Addr) (c : Nat) (l : List Int) (w : World) (hr : Kd.C (Kd.int .u8) w A l.length l) (_hc : l.length ≤ c) (hm : l.length ≤ 9223372036854775807) :
    Calls Try.prog 23 #[.slice A l.length c, .func (.func 24) #[] #[]] w fun e w' => e = .returned (.int .i64 (runLen 24 l : Nat)) ∧ w = w' := by
  have HR := Aside0.mk hr
  clear hr
  go_enter Try.func23, Try.ntmps23
  go_wp2
  go_loop [5] (fun i => ∃ k : Nat, k ≤ l.length ∧ i = .int .i64 k ∧ ∀ j, j < k → predOf 24 (l.getD j 0) = true) (fun i => l.length - (intOf i).toNat)
  case atStart => exact ⟨0, by omega, rfl, fun j hj => by omega⟩
  case round =>
    obtain ⟨k, hk, rfl, hp⟩ := hrel
    have HP := Aside0.mk hp
    clear hp
    by_cases hlt : k < l.length
    · obtain ⟨ad, e0, hx⟩ := Kd.at_int HR.out (k : Int) (by omega) (by omega)
      cases e0
      rw [Int.toNat_natCast] at hx
      have hq : predOf 24 (rd l k) = notLine (rd l k) := rfl
      have HQ := Aside0.mk hq
      clear hq
      by_cases he : predOf 24 (rd l k) = true
      · have hE := HQ.out.symm.trans he
        clear he
        go_wp2_with (go_at_call 24; refine (notLine_any _ _).mono ?_; rintro e w' ⟨rfl, rfl⟩)
        go_round
        case rel => exact ⟨k + 1, by omega, by go_num, fun j hj => by
          rcases Nat.lt_or_ge j k with h | h
          · exact HP.out j h
          · obtain rfl : j = k := by omega
            simpa [rd] using HQ.out.trans hE⟩
        case measure => simp [intOf]; omega
      · have hE : notLine (rd l k) = false := HQ.out.symm.trans (by simpa using he)
        clear he
        go_wp2_with (go_at_call 24; refine (notLine_any _ _).mono ?_; rintro e w' ⟨rfl, rfl⟩)
        go_ret
        exact ⟨ret_int (by unfold runLen; rw [takeWhile_at _ l k HP.out (by omega) (.inr (by simpa [rd] using HQ.out.trans hE))]), rfl⟩
    · go_wp2
      go_ret
      exact ⟨ret_int (by unfold runLen; rw [takeWhile_at _ l k HP.out (by omega) (.inl (by omega))]), rfl⟩
set_option maxHeartbeats 400000 in
theorem run_36 (A : Option Addr) (c : Nat) (l : List Int) (w : World) (hr : Kd.C (Kd.int .u8) w A l.length l) (_hc : l.length ≤ c) (hm : l.length ≤ 9223372036854775807) :
    Calls Try.prog 23 #[.slice A l.length c, .func (.func 36) #[] #[]] w fun e w' => e = .returned (.int .i64 (runLen 36 l : Nat)) ∧ w = w' := by
  have HR := Aside0.mk hr
  clear hr
  go_enter Try.func23, Try.ntmps23
  go_wp2
  go_loop [5] (fun i => ∃ k : Nat, k ≤ l.length ∧ i = .int .i64 k ∧ ∀ j, j < k → predOf 36 (l.getD j 0) = true) (fun i => l.length - (intOf i).toNat)
  case atStart => exact ⟨0, by omega, rfl, fun j hj => by omega⟩
  case round =>
    obtain ⟨k, hk, rfl, hp⟩ := hrel
    have HP := Aside0.mk hp
    clear hp
    by_cases hlt : k < l.length
    · obtain ⟨ad, e0, hx⟩ := Kd.at_int HR.out (k : Int) (by omega) (by omega)
      cases e0
      rw [Int.toNat_natCast] at hx
      have hq : predOf 36 (rd l k) = isDigit (rd l k) := rfl
      have HQ := Aside0.mk hq
      clear hq
      by_cases he : predOf 36 (rd l k) = true
      · have hE := HQ.out.symm.trans he
        clear he
        go_wp2_with (go_at_call 36; refine (digit_any _ _).mono ?_; rintro e w' ⟨rfl, rfl⟩)
        go_round
        case rel => exact ⟨k + 1, by omega, by go_num, fun j hj => by
          rcases Nat.lt_or_ge j k with h | h
          · exact HP.out j h
          · obtain rfl : j = k := by omega
            simpa [rd] using HQ.out.trans hE⟩
        case measure => simp [intOf]; omega
      · have hE : isDigit (rd l k) = false := HQ.out.symm.trans (by simpa using he)
        clear he
        go_wp2_with (go_at_call 36; refine (digit_any _ _).mono ?_; rintro e w' ⟨rfl, rfl⟩)
        go_ret
        exact ⟨ret_int (by unfold runLen; rw [takeWhile_at _ l k HP.out (by omega) (.inr (by simpa [rd] using HQ.out.trans hE))]), rfl⟩
    · go_wp2
      go_ret
      exact ⟨ret_int (by unfold runLen; rw [takeWhile_at _ l k HP.out (by omega) (.inl (by omega))]), rfl⟩
set_option maxHeartbeats 400000 in
theorem run_39 (A : Option Addr) (c : Nat) (l : List Int) (w : World) (hr : Kd.C (Kd.int .u8) w A l.length l) (_hc : l.length ≤ c) (hm : l.length ≤ 9223372036854775807) :
    Calls Try.prog 23 #[.slice A l.length c, .func (.func 39) #[] #[]] w fun e w' => e = .returned (.int .i64 (runLen 39 l : Nat)) ∧ w = w' := by
  have HR := Aside0.mk hr
  clear hr
  go_enter Try.func23, Try.ntmps23
  go_wp2
  go_loop [5] (fun i => ∃ k : Nat, k ≤ l.length ∧ i = .int .i64 k ∧ ∀ j, j < k → predOf 39 (l.getD j 0) = true) (fun i => l.length - (intOf i).toNat)
  case atStart => exact ⟨0, by omega, rfl, fun j hj => by omega⟩
  case round =>
    obtain ⟨k, hk, rfl, hp⟩ := hrel
    have HP := Aside0.mk hp
    clear hp
    by_cases hlt : k < l.length
    · obtain ⟨ad, e0, hx⟩ := Kd.at_int HR.out (k : Int) (by omega) (by omega)
      cases e0
      rw [Int.toNat_natCast] at hx
      have hq : predOf 39 (rd l k) = (isLetter (rd l k) || isDigit (rd l k)) := rfl
      have HQ := Aside0.mk hq
      clear hq
      by_cases he : predOf 39 (rd l k) = true
      · have hE := HQ.out.symm.trans he
        clear he
        go_wp2_with (go_at_call 39; refine (wordy_any _ _).mono ?_; rintro e w' ⟨rfl, rfl⟩)
        go_round
        case rel => exact ⟨k + 1, by omega, by go_num, fun j hj => by
          rcases Nat.lt_or_ge j k with h | h
          · exact HP.out j h
          · obtain rfl : j = k := by omega
            simpa [rd] using HQ.out.trans hE⟩
        case measure => simp [intOf]; omega
      · have hE : (isLetter (rd l k) || isDigit (rd l k)) = false := HQ.out.symm.trans (by simpa using he)
        clear he
        go_wp2_with (go_at_call 39; refine (wordy_any _ _).mono ?_; rintro e w' ⟨rfl, rfl⟩)
        go_ret
        exact ⟨ret_int (by unfold runLen; rw [takeWhile_at _ l k HP.out (by omega) (.inr (by simpa [rd] using HQ.out.trans hE))]), rfl⟩
    · go_wp2
      go_ret
      exact ⟨ret_int (by unfold runLen; rw [takeWhile_at _ l k HP.out (by omega) (.inl (by omega))]), rfl⟩
theorem scan_run.calls (A0 : Option Addr) (c0 : Nat) (l0 : List Int) (a1 : Nat) (r : Int) (w : World) (hr0 : Kd.C (Kd.int .u8) w A0 l0.length l0) (hc0 : l0.length ≤ c0) (h : scan_run.f l0 a1 = some r) :
    Calls Try.prog 23 #[.slice A0 l0.length c0, .func (.func a1) #[] #[]] w fun e w' => e = .returned (.int .i64 r) ∧ Drawn0 w w' := by
  unfold scan_run.f at h
  have key : ∀ F, Calls Try.prog 23 #[.slice A0 l0.length c0, .func (.func F) #[] #[]] w (fun e w' => e = .returned (.int .i64 (runLen F l0 : Nat)) ∧ w = w') → Calls Try.prog 23 #[.slice A0 l0.length c0, .func (.func F) #[] #[]] w (fun e w' => e = .returned (.int .i64 (runLen F l0 : Nat)) ∧ Drawn0 w w') := by
    intro F hF
    refine hF.mono ?_
    rintro e w' ⟨rfl, rfl⟩
    exact ⟨rfl, Drawn0.refl _⟩
  split at h
  · injection h with h
    subst h
    rename_i h1
    rcases h1 with rfl | rfl | rfl
    · exact key _ (run_24 A0 c0 l0 w hr0 hc0 hr0.2.1)
    · exact key _ (run_36 A0 c0 l0 w hr0 hc0 hr0.2.1)
    · exact key _ (run_39 A0 c0 l0 w hr0 hc0 hr0.2.1)
  · cases h

end Go.Proofs.Ytmingnhhmaclaaa.Given
