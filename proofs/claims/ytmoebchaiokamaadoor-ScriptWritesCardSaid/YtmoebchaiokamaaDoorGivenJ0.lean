/- What script.reads makes of a line, as a plain function. -/
import Derived.Test.YtmoebchaiokamaaDoorGivenI
namespace Go.Proofs.YtmoebchaiokamaaDoor.Given
open Go.RowKit Go.Proofs.YtmoebchaiokamaaDoorW.PrintWords Go.Proofs.YtmoebchaiokamaaDoorW.PrintLast Go.Proofs.YtmoebchaiokamaaDoorW.PrintMore Go.Proofs.YtmoebchaiokamaaDoor.Print
set_option linter.unusedVariables false
set_option linter.unusedSimpArgs false
/-- The limits of a script. -/
structure Lim where
  f0 : Int
  f1 : Int
  f2 : Int
  f3 : Int
  f4 : Int
  f5 : Int
  f6 : Int
structure Scr where
  lim : Lim
  reap : Bool
  picks : List S29
def lim0 : Lim := ⟨0, 0, 0, 0, 0, 0, 0⟩
def limOf : List Int → Lim
  | [a, b, c, d, e, f, g] => ⟨a, b, c, d, e, f, g⟩
  | _ => lim0
/-- A script's cells. -/
def scC (x : Lim) (r : Bool) (v : Value) : Array Value := #[.int .i64 x.f0, .int .i64 x.f1, .int .i64 x.f2, .int .i64 x.f3, .int .i64 x.f4, .int .i64 x.f5, .int .i64 x.f6, .bool r, v]
def wLimits : List UInt8 := [108, 105, 109, 105, 116, 115]
def wKeep : List UInt8 := [107, 101, 101, 112]
def wReap : List UInt8 := [114, 101, 97, 112]
def wStep : List UInt8 := [115, 116, 101, 112]
def wIn : List UInt8 := [105, 110]
def wOut : List UInt8 := [111, 117, 116]
def wProbe : List UInt8 := [112, 114, 111, 98, 101]
/-- The kind of pick that a word names, and how many numbers stand behind it. -/
def kindW (w : List UInt8) : Option (Nat × Nat) := if w = wStep then some (1, 1) else if w = wIn then some (2, 2) else if w = wOut then some (3, 1) else if w = wProbe then some (4, 0) else none
def pickW (s : Scr) (w : List UInt8) (r : List ByteArray) : Except Int Scr := match kindW w with
  | none => .error 170
  | some (k, n) => if 4096 ≤ s.picks.length then .error 172 else match takeOf n r with
    | none => .error 171
    | some ns => .ok ⟨s.lim, s.reap, s.picks ++ [⟨k, ns.getD 0 0, ns.getD 1 0⟩]⟩
/-- A line, of the words w and r, at a place read into a script; or what is wrong with it. -/
def readsW (i : Nat) (s : Scr) (w : List UInt8) (r : List ByteArray) : Except Int Scr :=
  if i = 0 then if w = wLimits then match takeOf 7 r with
      | none => .error 171
      | some ns => .ok ⟨limOf ns, s.reap, s.picks⟩
    else .error 170
  else if i = 1 then if w = wKeep ∨ w = wReap then match takeOf 0 r with
      | none => .error 171
      | some _ => .ok ⟨s.lim, decide (w = wReap), s.picks⟩
    else .error 170
  else pickW s w r
def readsOf (i : Nat) (s : Scr) (l : ByteArray) : Except Int Scr := match wordsL l with
  | [] => .error 170
  | t :: r => readsW i s t.toList r
/-- What reads answers, and what it leaves of the script at the block g. -/
def ReadsSays (w : World) (g : Nat) (r : Except Int Scr) (e : Ending) (w' : World) : Prop := match r with
  | .ok s => e = .returned .nilIface ∧ (∃ v, w'.heap[g]? = some (.cells (scC s.lim s.reap v) 26 (0, 0)) ∧ Kd.R k29 29 w' (g + 1) (fun _ => True) v s.picks) ∧ Below g w w'
  | .error c => (∃ a, e = .returned (.iface 58 (.pointer (some ⟨a, 0, none⟩))) ∧ w'.heap[a]? = some (.cells #[.int .i64 c] 62 (0, 0)) ∧ g < a) ∧ Below g w w'
theorem take_len {n : Nat} {ws : List ByteArray} {ns : List Int} (h : takeOf n ws = some ns) : ns.length = n := by
  unfold takeOf at h
  split at h
  · rename_i hl
    have : ∀ (l : List ByteArray) (ns : List Int), numsIn l = some ns → ns.length = l.length := fun l ns h => (nums_get l ns h).1
    rw [this _ _ h, hl]
  · cases h
end Go.Proofs.YtmoebchaiokamaaDoor.Given
