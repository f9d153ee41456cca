/-
  No cell of these rows narrows 'for every input' (looked for: loops, veiled, ifaces, maps, wideKeys, modest, calm, conditions, laid).
  DERIVED. THE GIVEN ROWS OF THIS SEAT. 5 by the template 'for every input the law returns true; each argument reads behind the call as it read before'; 0 by the template 'total and deterministic' (their statements: YtmingnhhmaclaaaTotals.lean).
  GIVEN WITH THE SEED: the statements are not yours to turn. If you find one false, say at which input.
  Laid BY PROGRAM, IN A SANDBOX (cutbox-rows.mjs): the forced cells as the released guide's own fill.sh prints them over the translation a192d65a58e0d066… (all of the seat's roots in one cut). By AI agents, Wed Nov 11 2026. No macro, syntax, notation, axiom, sorry.
-/
import Derived.Test.YtmingnhhmaclaaaChecked
import GoSem.Claim
import GoSem.ClaimJoined
import GoSem.ClaimMapViews
import Derived.JoinedTies
import Derived.KernelRfl
namespace Go.Proofs.Ytmingnhhmaclaaa
/- THE CELL 'sum', in the pinned program and in every row, IS THE sha256 OF THE DUMP (.gsa) THAT YtmingnhhmaclaaaProg.lean LOADS. Nothing in Lean hashes anything: it is a label: what it is worth is what the hold of that sum in a sandbox is worth. -/
noncomputable def Try.pinned : Pinned := { name := "ytmingnhhmaclaaa", sum := "a192d65a58e0d0666ef0914fe33ad456298fe87b6596932e3710aea882d10310", checked := Try.checked }
namespace Rows
def none {H : Type} : Left H := { results := [], args := [] }

/-- 'squintlaw01.ScanTexts': WHATEVER THE INPUT: true; the input reads as it did. -/
def scanTextsSpec : ChangeSpec := { name := "scanTexts", fn := fun _ => fun
  | [d1, d2] => { results := [.lit (.bool true)], args := [d1, d2] }
  | _ => none }
def scanTextsRow : OpenClaim := { program := "ytmingnhhmaclaaa", sum := "a192d65a58e0d0666ef0914fe33ad456298fe87b6596932e3710aea882d10310", func := "squint/squintlaw01.ScanTexts", spec := "scanTexts", unfollowed := true, recurses := true, apart := false }
def ScanTextsSaid : Prop := scanTextsRow.holds Try.pinned (OpenSpec.ofChange scanTextsSpec)

/-- ITS FALSE NEIGHBOUR: 'it returns false'. Refute it at one input. -/
def scanTextsWrong : ChangeSpec := { name := "scanTexts", fn := fun _ => fun
  | [d1, d2] => { results := [.lit (.bool false)], args := [d1, d2] }
  | _ => none }
def ScanTextsWrongFalsely : Prop := scanTextsRow.holds Try.pinned (OpenSpec.ofChange scanTextsWrong)

/-- 'squintlaw01.ScanReads': WHATEVER THE INPUT: true; the input reads as it did. -/
def scanReadsSpec : ChangeSpec := { name := "scanReads", fn := fun _ => fun
  | [d1, d2] => { results := [.lit (.bool true)], args := [d1, d2] }
  | _ => none }
def scanReadsRow : OpenClaim := { program := "ytmingnhhmaclaaa", sum := "a192d65a58e0d0666ef0914fe33ad456298fe87b6596932e3710aea882d10310", func := "squint/squintlaw01.ScanReads", spec := "scanReads", unfollowed := true, recurses := true, apart := false }
def ScanReadsSaid : Prop := scanReadsRow.holds Try.pinned (OpenSpec.ofChange scanReadsSpec)

/-- ITS FALSE NEIGHBOUR: 'it returns false'. Refute it at one input. -/
def scanReadsWrong : ChangeSpec := { name := "scanReads", fn := fun _ => fun
  | [d1, d2] => { results := [.lit (.bool false)], args := [d1, d2] }
  | _ => none }
def ScanReadsWrongFalsely : Prop := scanReadsRow.holds Try.pinned (OpenSpec.ofChange scanReadsWrong)

/-- 'squintlaw01.ScanCovers': WHATEVER THE INPUT: true; the input reads as it did. -/
def scanCoversSpec : ChangeSpec := { name := "scanCovers", fn := fun _ => fun
  | [d] => { results := [.lit (.bool true)], args := [d] }
  | _ => none }
def scanCoversRow : OpenClaim := { program := "ytmingnhhmaclaaa", sum := "a192d65a58e0d0666ef0914fe33ad456298fe87b6596932e3710aea882d10310", func := "squint/squintlaw01.ScanCovers", spec := "scanCovers", unfollowed := true, recurses := true, apart := false }
def ScanCoversSaid : Prop := scanCoversRow.holds Try.pinned (OpenSpec.ofChange scanCoversSpec)

/-- ITS FALSE NEIGHBOUR: 'it returns false'. Refute it at one input. -/
def scanCoversWrong : ChangeSpec := { name := "scanCovers", fn := fun _ => fun
  | [d] => { results := [.lit (.bool false)], args := [d] }
  | _ => none }
def ScanCoversWrongFalsely : Prop := scanCoversRow.holds Try.pinned (OpenSpec.ofChange scanCoversWrong)

/-- 'squintlaw01.ScanJoins': WHATEVER THE INPUT: true; the input reads as it did. -/
def scanJoinsSpec : ChangeSpec := { name := "scanJoins", fn := fun _ => fun
  | [d1, d2, d3] => { results := [.lit (.bool true)], args := [d1, d2, d3] }
  | _ => none }
def scanJoinsRow : OpenClaim := { program := "ytmingnhhmaclaaa", sum := "a192d65a58e0d0666ef0914fe33ad456298fe87b6596932e3710aea882d10310", func := "squint/squintlaw01.ScanJoins", spec := "scanJoins", unfollowed := true, recurses := true, apart := false }
def ScanJoinsSaid : Prop := scanJoinsRow.holds Try.pinned (OpenSpec.ofChange scanJoinsSpec)

/-- ITS FALSE NEIGHBOUR: 'it returns false'. Refute it at one input. -/
def scanJoinsWrong : ChangeSpec := { name := "scanJoins", fn := fun _ => fun
  | [d1, d2, d3] => { results := [.lit (.bool false)], args := [d1, d2, d3] }
  | _ => none }
def ScanJoinsWrongFalsely : Prop := scanJoinsRow.holds Try.pinned (OpenSpec.ofChange scanJoinsWrong)

/-- 'squintlaw01.ScanNumbers': WHATEVER THE INPUT: true; the input reads as it did. -/
def scanNumbersSpec : ChangeSpec := { name := "scanNumbers", fn := fun _ => fun
  | [] => { results := [.lit (.bool true)], args := [] }
  | _ => none }
def scanNumbersRow : OpenClaim := { program := "ytmingnhhmaclaaa", sum := "a192d65a58e0d0666ef0914fe33ad456298fe87b6596932e3710aea882d10310", func := "squint/squintlaw01.ScanNumbers", spec := "scanNumbers", unfollowed := true, recurses := true, apart := false }
def ScanNumbersSaid : Prop := scanNumbersRow.holds Try.pinned (OpenSpec.ofChange scanNumbersSpec)

/-- ITS FALSE NEIGHBOUR: 'it returns false'. Refute it at one input. -/
def scanNumbersWrong : ChangeSpec := { name := "scanNumbers", fn := fun _ => fun
  | [] => { results := [.lit (.bool false)], args := [] }
  | _ => none }
def ScanNumbersWrongFalsely : Prop := scanNumbersRow.holds Try.pinned (OpenSpec.ofChange scanNumbersWrong)

/- THE SECOND FORM. 'bulk': how many values and letters a reading holds, each counted each time it is reached (what is shared counts as often as it is met; a slice's spare places count too). A statement '..UptoSaid' is the law's where the arguments, and the package variables that the reading takes, are together of bulk at most 1048576: NARROWER than '..Said'. Prove '..Said' where nothing that the law and all that it calls make is longer than what came in: it says more and counts as full. Else prove '..UptoSaid'. A law counts once. -/
mutual
def uptoBulk {H : Type} : DataW H → Nat
  | .lit (.string bytes) => bytes.length + 1
  | .lit _ => 1
  | .nil => 1
  | .ptr d => uptoBulk d + 1
  | .slice elems spare => uptoBulkAll elems + uptoBulkAll spare + 1
  | .agg parts => uptoBulkAll parts + 1
  | .iface _ d => uptoBulk d + 1
  | .map entries => uptoBulkEntries entries + 1
  | .held _ => 1
def uptoBulkAll {H : Type} : List (DataW H) → Nat
  | [] => 0
  | d :: r => uptoBulk d + uptoBulkAll r
def uptoBulkEntries {H : Type} : List (Lit × DataW H) → Nat
  | [] => 0
  | x :: r => uptoBulkEntry x + uptoBulkEntries r
def uptoBulkEntry {H : Type} : Lit × DataW H → Nat
  | (.string bytes, d) => bytes.length + uptoBulk d + 1
  | (_, d) => uptoBulk d + 1
 end
def uptoSmall : (H : Type) → List (DataW H) → Bool := fun _ ds => decide (uptoBulkAll ds ≤ 1048576)
def OpenSpec.upto (s : _root_.Go.ChangeSpec) : _root_.Go.OpenSpec := { _root_.Go.OpenSpec.ofChange s with cond := some uptoSmall }

/-- 'squintlaw01.ScanTexts', WHERE WHAT IT READS IS OF BULK AT MOST 1048576: true; the input reads as it did. -/
def scanTextsUptoRow : OpenClaim := { program := "ytmingnhhmaclaaa", sum := "a192d65a58e0d0666ef0914fe33ad456298fe87b6596932e3710aea882d10310", func := "squint/squintlaw01.ScanTexts", spec := "scanTexts", unfollowed := true, recurses := true, apart := false, narrowed := true }
def ScanTextsUptoSaid : Prop := scanTextsUptoRow.holds Try.pinned (OpenSpec.upto scanTextsSpec)

/-- 'squintlaw01.ScanReads', WHERE WHAT IT READS IS OF BULK AT MOST 1048576: true; the input reads as it did. -/
def scanReadsUptoRow : OpenClaim := { program := "ytmingnhhmaclaaa", sum := "a192d65a58e0d0666ef0914fe33ad456298fe87b6596932e3710aea882d10310", func := "squint/squintlaw01.ScanReads", spec := "scanReads", unfollowed := true, recurses := true, apart := false, narrowed := true }
def ScanReadsUptoSaid : Prop := scanReadsUptoRow.holds Try.pinned (OpenSpec.upto scanReadsSpec)

/-- 'squintlaw01.ScanCovers', WHERE WHAT IT READS IS OF BULK AT MOST 1048576: true; the input reads as it did. -/
def scanCoversUptoRow : OpenClaim := { program := "ytmingnhhmaclaaa", sum := "a192d65a58e0d0666ef0914fe33ad456298fe87b6596932e3710aea882d10310", func := "squint/squintlaw01.ScanCovers", spec := "scanCovers", unfollowed := true, recurses := true, apart := false, narrowed := true }
def ScanCoversUptoSaid : Prop := scanCoversUptoRow.holds Try.pinned (OpenSpec.upto scanCoversSpec)

/-- 'squintlaw01.ScanJoins', WHERE WHAT IT READS IS OF BULK AT MOST 1048576: true; the input reads as it did. -/
def scanJoinsUptoRow : OpenClaim := { program := "ytmingnhhmaclaaa", sum := "a192d65a58e0d0666ef0914fe33ad456298fe87b6596932e3710aea882d10310", func := "squint/squintlaw01.ScanJoins", spec := "scanJoins", unfollowed := true, recurses := true, apart := false, narrowed := true }
def ScanJoinsUptoSaid : Prop := scanJoinsUptoRow.holds Try.pinned (OpenSpec.upto scanJoinsSpec)

/-- 'squintlaw01.ScanNumbers', WHERE WHAT IT READS IS OF BULK AT MOST 1048576: true; the input reads as it did. -/
def scanNumbersUptoRow : OpenClaim := { program := "ytmingnhhmaclaaa", sum := "a192d65a58e0d0666ef0914fe33ad456298fe87b6596932e3710aea882d10310", func := "squint/squintlaw01.ScanNumbers", spec := "scanNumbers", unfollowed := true, recurses := true, apart := false, narrowed := true }
def ScanNumbersUptoSaid : Prop := scanNumbersUptoRow.holds Try.pinned (OpenSpec.upto scanNumbersSpec)

end Rows
end Go.Proofs.Ytmingnhhmaclaaa
