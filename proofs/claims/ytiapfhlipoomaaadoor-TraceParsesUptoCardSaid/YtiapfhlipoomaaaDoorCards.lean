/-
  DERIVED. GIVEN WITH THE SEED: THE CARDS: each row of YtiapfhlipoomaaaDoorRows.lean that lists a variable, with what it lists TIED to the program's text (the seventh form; the later family's looks); each row that meets fmt, with fmt's text TOLD by the authors' own Lean function (tested against real Go, not proved from fmt's source: count such statements apart). THE CARD IS WHAT COUNTS. Prove the row's statement (the work); the ties are given (YtiapfhlipoomaaaDoorTie.lean); close each card by the builder's one call (the guide's Derived/Test/ToyasCard.lean, 'card_holds'). Laid BY PROGRAM, IN A SANDBOX (cutbox-door.mjs). By AI agents, Wed Nov 11 2026. No macro, syntax, notation, axiom, sorry.
-/
import Derived.Test.YtiapfhlipoomaaaDoorRows
import GoSem.ClaimSeven
namespace Go.Proofs.YtiapfhlipoomaaaDoor
namespace Rows

/-- THE TIED CARD OF 'squintlaw18.TraceChecks'. -/
def traceChecksCard : Claim7 := { stood := { row := traceChecksRow, standIns := [], harness := (true, "f88164b1575a76684a27ecaf510d6673168676b8574c10b7debc1a175e510341"), looks := true }, kinds := [], alts := [], laidByText := true, laidKinds := [.data, .data, .data, .data, .sentinel, .sentinel, .pinned], laidTests := true, laidLooks := .later }
def TraceChecksCardSaid : Prop := Claim7.holds Tryd.pinned (.plain (OpenSpec.ofChange traceChecksSpec)) traceChecksCard

/-- THE TIED CARD OF 'squintlaw18.TracePrints'. -/
def tracePrintsCard : Claim7 := { stood := { row := tracePrintsRow, standIns := [], harness := (true, "f88164b1575a76684a27ecaf510d6673168676b8574c10b7debc1a175e510341"), looks := true }, kinds := [], alts := [], laidByText := true, laidKinds := [.data, .data, .data, .data, .sentinel, .sentinel, .pinned], laidTests := true, laidLooks := .later }
def TracePrintsCardSaid : Prop := Claim7.holds Tryd.pinned (.plain (OpenSpec.ofChange tracePrintsSpec)) tracePrintsCard

/-- THE TIED CARD OF 'squintlaw18.TraceParses'. -/
def traceParsesCard : Claim7 := { stood := { row := traceParsesRow, standIns := [], harness := (true, "f88164b1575a76684a27ecaf510d6673168676b8574c10b7debc1a175e510341"), looks := true }, kinds := [], alts := [], laidByText := true, laidKinds := [.data, .data, .data, .data, .sentinel, .sentinel, .pinned], laidTests := true, laidLooks := .later }
def TraceParsesCardSaid : Prop := Claim7.holds Tryd.pinned (.plain (OpenSpec.ofChange traceParsesSpec)) traceParsesCard

/-- THE TIED CARD OF 'squintlaw18.TraceBack'. -/
def traceBackCard : Claim7 := { stood := { row := traceBackRow, standIns := [], harness := (true, "f88164b1575a76684a27ecaf510d6673168676b8574c10b7debc1a175e510341"), looks := true }, kinds := [], alts := [], laidByText := true, laidKinds := [.data, .data, .data, .data, .sentinel, .sentinel, .pinned], laidTests := true, laidLooks := .later }
def TraceBackCardSaid : Prop := Claim7.holds Tryd.pinned (.plain (OpenSpec.ofChange traceBackSpec)) traceBackCard

/-- THE TIED CARD OF 'squintlaw18.TraceJoins'. -/
def traceJoinsCard : Claim7 := { stood := { row := traceJoinsRow, standIns := [], harness := (true, "f88164b1575a76684a27ecaf510d6673168676b8574c10b7debc1a175e510341"), looks := true }, kinds := [], alts := [], laidByText := true, laidKinds := [.data, .data, .data, .data, .sentinel, .sentinel, .pinned], laidTests := true, laidLooks := .later }
def TraceJoinsCardSaid : Prop := Claim7.holds Tryd.pinned (.plain (OpenSpec.ofChange traceJoinsSpec)) traceJoinsCard

/-- THE TIED CARD OF 'squintlaw18.TraceNames'. -/
def traceNamesCard : Claim7 := { stood := { row := traceNamesRow, standIns := [], harness := (true, "f88164b1575a76684a27ecaf510d6673168676b8574c10b7debc1a175e510341"), looks := true }, kinds := [], alts := [], laidByText := true, laidKinds := [.data, .data, .data, .data, .sentinel, .sentinel, .pinned], laidTests := true, laidLooks := .later }
def TraceNamesCardSaid : Prop := Claim7.holds Tryd.pinned (.plain (OpenSpec.ofChange traceNamesSpec)) traceNamesCard

/-- THE SECOND FORM's CARD OF 'squintlaw18.TraceChecks'. -/
def traceChecksUptoCard : Claim7 := { stood := { row := traceChecksUptoRow, standIns := [], harness := (true, "f88164b1575a76684a27ecaf510d6673168676b8574c10b7debc1a175e510341"), looks := true }, kinds := [], alts := [], laidByText := true, laidKinds := [.data, .data, .data, .data, .sentinel, .sentinel, .pinned], laidTests := true, laidLooks := .later }
def TraceChecksUptoCardSaid : Prop := Claim7.holds Tryd.pinned (.plain (OpenSpec.upto traceChecksSpec)) traceChecksUptoCard

/-- THE SECOND FORM's CARD OF 'squintlaw18.TracePrints'. -/
def tracePrintsUptoCard : Claim7 := { stood := { row := tracePrintsUptoRow, standIns := [], harness := (true, "f88164b1575a76684a27ecaf510d6673168676b8574c10b7debc1a175e510341"), looks := true }, kinds := [], alts := [], laidByText := true, laidKinds := [.data, .data, .data, .data, .sentinel, .sentinel, .pinned], laidTests := true, laidLooks := .later }
def TracePrintsUptoCardSaid : Prop := Claim7.holds Tryd.pinned (.plain (OpenSpec.upto tracePrintsSpec)) tracePrintsUptoCard

/-- THE SECOND FORM's CARD OF 'squintlaw18.TraceParses'. -/
def traceParsesUptoCard : Claim7 := { stood := { row := traceParsesUptoRow, standIns := [], harness := (true, "f88164b1575a76684a27ecaf510d6673168676b8574c10b7debc1a175e510341"), looks := true }, kinds := [], alts := [], laidByText := true, laidKinds := [.data, .data, .data, .data, .sentinel, .sentinel, .pinned], laidTests := true, laidLooks := .later }
def TraceParsesUptoCardSaid : Prop := Claim7.holds Tryd.pinned (.plain (OpenSpec.upto traceParsesSpec)) traceParsesUptoCard

/-- THE SECOND FORM's CARD OF 'squintlaw18.TraceBack'. -/
def traceBackUptoCard : Claim7 := { stood := { row := traceBackUptoRow, standIns := [], harness := (true, "f88164b1575a76684a27ecaf510d6673168676b8574c10b7debc1a175e510341"), looks := true }, kinds := [], alts := [], laidByText := true, laidKinds := [.data, .data, .data, .data, .sentinel, .sentinel, .pinned], laidTests := true, laidLooks := .later }
def TraceBackUptoCardSaid : Prop := Claim7.holds Tryd.pinned (.plain (OpenSpec.upto traceBackSpec)) traceBackUptoCard

/-- THE SECOND FORM's CARD OF 'squintlaw18.TraceJoins'. -/
def traceJoinsUptoCard : Claim7 := { stood := { row := traceJoinsUptoRow, standIns := [], harness := (true, "f88164b1575a76684a27ecaf510d6673168676b8574c10b7debc1a175e510341"), looks := true }, kinds := [], alts := [], laidByText := true, laidKinds := [.data, .data, .data, .data, .sentinel, .sentinel, .pinned], laidTests := true, laidLooks := .later }
def TraceJoinsUptoCardSaid : Prop := Claim7.holds Tryd.pinned (.plain (OpenSpec.upto traceJoinsSpec)) traceJoinsUptoCard

/-- THE SECOND FORM's CARD OF 'squintlaw18.TraceNames'. -/
def traceNamesUptoCard : Claim7 := { stood := { row := traceNamesUptoRow, standIns := [], harness := (true, "f88164b1575a76684a27ecaf510d6673168676b8574c10b7debc1a175e510341"), looks := true }, kinds := [], alts := [], laidByText := true, laidKinds := [.data, .data, .data, .data, .sentinel, .sentinel, .pinned], laidTests := true, laidLooks := .later }
def TraceNamesUptoCardSaid : Prop := Claim7.holds Tryd.pinned (.plain (OpenSpec.upto traceNamesSpec)) traceNamesUptoCard
end Rows
end Go.Proofs.YtiapfhlipoomaaaDoor
