/-
  DERIVED. GIVEN WITH THE SEED: THE CARDS: each row of YtmoebchaiokamaaDoorRows.lean that lists a variable, with what it lists TIED to the program's text (the seventh form; the later family's looks); each row that meets fmt, with fmt's text TOLD by the authors' own Lean function (tested against real Go, not proved from fmt's source: count such statements apart). THE CARD IS WHAT COUNTS. Prove the row's statement (the work); the ties are given (YtmoebchaiokamaaDoorTie.lean); close each card by the builder's one call (the guide's Derived/Test/ToyasCard.lean, 'card_holds'). Laid BY PROGRAM, IN A SANDBOX (cutbox-door.mjs). By AI agents, Wed Nov 11 2026. No macro, syntax, notation, axiom, sorry.
-/
import Derived.Test.YtmoebchaiokamaaDoorRows
import GoSem.ClaimSeven
namespace Go.Proofs.YtmoebchaiokamaaDoor
namespace Rows

/-- THE TIED CARD OF 'squintlaw17.ScriptWrites'. -/
def scriptWritesCard : Claim7 := { stood := { row := scriptWritesRow, standIns := [], harness := (true, "1641bf1d7deeca546acdf5ed84dd5ecc438d49f5a3ae05e9d9cc657069503771"), looks := true }, kinds := [], alts := [], laidByText := true, laidKinds := [.data, .data, .data, .data, .handle, .sentinel, .sentinel, .pinned], laidTests := true, laidLooks := .later }
def ScriptWritesCardSaid : Prop := Claim7.holds Tryd.pinned (.plain (OpenSpec.ofChange scriptWritesSpec)) scriptWritesCard

/-- THE TIED CARD OF 'squintlaw17.ScriptBack'. -/
def scriptBackCard : Claim7 := { stood := { row := scriptBackRow, standIns := [], harness := (true, "1641bf1d7deeca546acdf5ed84dd5ecc438d49f5a3ae05e9d9cc657069503771"), looks := true }, kinds := [], alts := [], laidByText := true, laidKinds := [.data, .data, .data, .data, .handle, .sentinel, .sentinel, .pinned], laidTests := true, laidLooks := .later }
def ScriptBackCardSaid : Prop := Claim7.holds Tryd.pinned (.plain (OpenSpec.ofChange scriptBackSpec)) scriptBackCard

/-- THE TIED CARD OF 'squintlaw17.ScriptNumbers'. -/
def scriptNumbersCard : Claim7 := { stood := { row := scriptNumbersRow, standIns := [], harness := (true, "1641bf1d7deeca546acdf5ed84dd5ecc438d49f5a3ae05e9d9cc657069503771"), looks := true }, kinds := [], alts := [], laidByText := true, laidKinds := [.data, .data, .data, .data, .handle, .sentinel, .sentinel, .pinned], laidTests := true, laidLooks := .later }
def ScriptNumbersCardSaid : Prop := Claim7.holds Tryd.pinned (.plain (OpenSpec.ofChange scriptNumbersSpec)) scriptNumbersCard

/-- THE SECOND FORM's CARD OF 'squintlaw17.ScriptWrites'. -/
def scriptWritesUptoCard : Claim7 := { stood := { row := scriptWritesUptoRow, standIns := [], harness := (true, "1641bf1d7deeca546acdf5ed84dd5ecc438d49f5a3ae05e9d9cc657069503771"), looks := true }, kinds := [], alts := [], laidByText := true, laidKinds := [.data, .data, .data, .data, .handle, .sentinel, .sentinel, .pinned], laidTests := true, laidLooks := .later }
def ScriptWritesUptoCardSaid : Prop := Claim7.holds Tryd.pinned (.plain (OpenSpec.upto scriptWritesSpec)) scriptWritesUptoCard

/-- THE SECOND FORM's CARD OF 'squintlaw17.ScriptBack'. -/
def scriptBackUptoCard : Claim7 := { stood := { row := scriptBackUptoRow, standIns := [], harness := (true, "1641bf1d7deeca546acdf5ed84dd5ecc438d49f5a3ae05e9d9cc657069503771"), looks := true }, kinds := [], alts := [], laidByText := true, laidKinds := [.data, .data, .data, .data, .handle, .sentinel, .sentinel, .pinned], laidTests := true, laidLooks := .later }
def ScriptBackUptoCardSaid : Prop := Claim7.holds Tryd.pinned (.plain (OpenSpec.upto scriptBackSpec)) scriptBackUptoCard

/-- THE SECOND FORM's CARD OF 'squintlaw17.ScriptNumbers'. -/
def scriptNumbersUptoCard : Claim7 := { stood := { row := scriptNumbersUptoRow, standIns := [], harness := (true, "1641bf1d7deeca546acdf5ed84dd5ecc438d49f5a3ae05e9d9cc657069503771"), looks := true }, kinds := [], alts := [], laidByText := true, laidKinds := [.data, .data, .data, .data, .handle, .sentinel, .sentinel, .pinned], laidTests := true, laidLooks := .later }
def ScriptNumbersUptoCardSaid : Prop := Claim7.holds Tryd.pinned (.plain (OpenSpec.upto scriptNumbersSpec)) scriptNumbersUptoCard
end Rows
end Go.Proofs.YtmoebchaiokamaaDoor
