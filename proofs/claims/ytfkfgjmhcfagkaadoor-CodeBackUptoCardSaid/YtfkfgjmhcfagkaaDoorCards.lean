/-
  DERIVED. GIVEN WITH THE SEED: THE CARDS: each row of YtfkfgjmhcfagkaaDoorRows.lean that lists a variable, with what it lists TIED to the program's text (the seventh form; the later family's looks); each row that meets fmt, with fmt's text TOLD by the authors' own Lean function (tested against real Go, not proved from fmt's source: count such statements apart). THE CARD IS WHAT COUNTS. Prove the row's statement (the work); the ties are given (YtfkfgjmhcfagkaaDoorTie.lean); close each card by the builder's one call (the guide's Derived/Test/ToyasCard.lean, 'card_holds'). Laid BY PROGRAM, IN A SANDBOX (cutbox-door.mjs). By AI agents, Wed Nov 11 2026. No macro, syntax, notation, axiom, sorry.
-/
import Derived.Test.YtfkfgjmhcfagkaaDoorRows
import GoSem.ClaimSeven
namespace Go.Proofs.YtfkfgjmhcfagkaaDoor
namespace Rows

/-- THE TIED CARD OF 'squintlaw08.CodeWords'. -/
def codeWordsCard : Claim7 := { stood := { row := codeWordsRow, standIns := [], harness := (true, "c220d93371fb23bddf6e7c9635819bf57fc97ceb538b5005b12ef6757d49197f"), looks := true }, kinds := [], alts := [], laidByText := true, laidKinds := [.data, .data, .data, .data, .sentinel, .sentinel, .pinned], laidTests := true, laidLooks := .later }
def CodeWordsCardSaid : Prop := Claim7.holds Tryd.pinned (.plain (OpenSpec.ofChange codeWordsSpec)) codeWordsCard

/-- THE TIED CARD OF 'squintlaw08.CodeTakes'. -/
def codeTakesCard : Claim7 := { stood := { row := codeTakesRow, standIns := [], harness := (true, "c220d93371fb23bddf6e7c9635819bf57fc97ceb538b5005b12ef6757d49197f"), looks := true }, kinds := [], alts := [], laidByText := true, laidKinds := [.data, .data, .data, .data, .sentinel, .sentinel, .pinned], laidTests := true, laidLooks := .later }
def CodeTakesCardSaid : Prop := Claim7.holds Tryd.pinned (.plain (OpenSpec.ofChange codeTakesSpec)) codeTakesCard

/-- THE TIED CARD OF 'squintlaw08.CodePrints'. -/
def codePrintsCard : Claim7 := { stood := { row := codePrintsRow, standIns := [], harness := (true, "c220d93371fb23bddf6e7c9635819bf57fc97ceb538b5005b12ef6757d49197f"), looks := true }, kinds := [], alts := [], laidByText := true, laidKinds := [.data, .data, .data, .data, .sentinel, .sentinel, .pinned], laidTests := true, laidLooks := .later }
def CodePrintsCardSaid : Prop := Claim7.holds Tryd.pinned (.plain (OpenSpec.ofChange codePrintsSpec)) codePrintsCard

/-- THE TIED CARD OF 'squintlaw08.CodeParses'. -/
def codeParsesCard : Claim7 := { stood := { row := codeParsesRow, standIns := [], harness := (true, "c220d93371fb23bddf6e7c9635819bf57fc97ceb538b5005b12ef6757d49197f"), looks := true }, kinds := [], alts := [], laidByText := true, laidKinds := [.data, .data, .data, .data, .sentinel, .sentinel, .pinned], laidTests := true, laidLooks := .later }
def CodeParsesCardSaid : Prop := Claim7.holds Tryd.pinned (.plain (OpenSpec.ofChange codeParsesSpec)) codeParsesCard

/-- THE TIED CARD OF 'squintlaw08.CodeBack'. -/
def codeBackCard : Claim7 := { stood := { row := codeBackRow, standIns := [], harness := (true, "c220d93371fb23bddf6e7c9635819bf57fc97ceb538b5005b12ef6757d49197f"), looks := true }, kinds := [], alts := [], laidByText := true, laidKinds := [.data, .data, .data, .data, .sentinel, .sentinel, .pinned], laidTests := true, laidLooks := .later }
def CodeBackCardSaid : Prop := Claim7.holds Tryd.pinned (.plain (OpenSpec.ofChange codeBackSpec)) codeBackCard

/-- THE TIED CARD OF 'squintlaw08.CodeOps'. -/
def codeOpsCard : Claim7 := { stood := { row := codeOpsRow, standIns := [], harness := (true, "c220d93371fb23bddf6e7c9635819bf57fc97ceb538b5005b12ef6757d49197f"), looks := true }, kinds := [], alts := [], laidByText := true, laidKinds := [.data, .data, .data, .data, .sentinel, .sentinel, .pinned], laidTests := true, laidLooks := .later }
def CodeOpsCardSaid : Prop := Claim7.holds Tryd.pinned (.plain (OpenSpec.ofChange codeOpsSpec)) codeOpsCard

/-- THE SECOND FORM's CARD OF 'squintlaw08.CodeWords'. -/
def codeWordsUptoCard : Claim7 := { stood := { row := codeWordsUptoRow, standIns := [], harness := (true, "c220d93371fb23bddf6e7c9635819bf57fc97ceb538b5005b12ef6757d49197f"), looks := true }, kinds := [], alts := [], laidByText := true, laidKinds := [.data, .data, .data, .data, .sentinel, .sentinel, .pinned], laidTests := true, laidLooks := .later }
def CodeWordsUptoCardSaid : Prop := Claim7.holds Tryd.pinned (.plain (OpenSpec.upto codeWordsSpec)) codeWordsUptoCard

/-- THE SECOND FORM's CARD OF 'squintlaw08.CodeTakes'. -/
def codeTakesUptoCard : Claim7 := { stood := { row := codeTakesUptoRow, standIns := [], harness := (true, "c220d93371fb23bddf6e7c9635819bf57fc97ceb538b5005b12ef6757d49197f"), looks := true }, kinds := [], alts := [], laidByText := true, laidKinds := [.data, .data, .data, .data, .sentinel, .sentinel, .pinned], laidTests := true, laidLooks := .later }
def CodeTakesUptoCardSaid : Prop := Claim7.holds Tryd.pinned (.plain (OpenSpec.upto codeTakesSpec)) codeTakesUptoCard

/-- THE SECOND FORM's CARD OF 'squintlaw08.CodePrints'. -/
def codePrintsUptoCard : Claim7 := { stood := { row := codePrintsUptoRow, standIns := [], harness := (true, "c220d93371fb23bddf6e7c9635819bf57fc97ceb538b5005b12ef6757d49197f"), looks := true }, kinds := [], alts := [], laidByText := true, laidKinds := [.data, .data, .data, .data, .sentinel, .sentinel, .pinned], laidTests := true, laidLooks := .later }
def CodePrintsUptoCardSaid : Prop := Claim7.holds Tryd.pinned (.plain (OpenSpec.upto codePrintsSpec)) codePrintsUptoCard

/-- THE SECOND FORM's CARD OF 'squintlaw08.CodeParses'. -/
def codeParsesUptoCard : Claim7 := { stood := { row := codeParsesUptoRow, standIns := [], harness := (true, "c220d93371fb23bddf6e7c9635819bf57fc97ceb538b5005b12ef6757d49197f"), looks := true }, kinds := [], alts := [], laidByText := true, laidKinds := [.data, .data, .data, .data, .sentinel, .sentinel, .pinned], laidTests := true, laidLooks := .later }
def CodeParsesUptoCardSaid : Prop := Claim7.holds Tryd.pinned (.plain (OpenSpec.upto codeParsesSpec)) codeParsesUptoCard

/-- THE SECOND FORM's CARD OF 'squintlaw08.CodeBack'. -/
def codeBackUptoCard : Claim7 := { stood := { row := codeBackUptoRow, standIns := [], harness := (true, "c220d93371fb23bddf6e7c9635819bf57fc97ceb538b5005b12ef6757d49197f"), looks := true }, kinds := [], alts := [], laidByText := true, laidKinds := [.data, .data, .data, .data, .sentinel, .sentinel, .pinned], laidTests := true, laidLooks := .later }
def CodeBackUptoCardSaid : Prop := Claim7.holds Tryd.pinned (.plain (OpenSpec.upto codeBackSpec)) codeBackUptoCard

/-- THE SECOND FORM's CARD OF 'squintlaw08.CodeOps'. -/
def codeOpsUptoCard : Claim7 := { stood := { row := codeOpsUptoRow, standIns := [], harness := (true, "c220d93371fb23bddf6e7c9635819bf57fc97ceb538b5005b12ef6757d49197f"), looks := true }, kinds := [], alts := [], laidByText := true, laidKinds := [.data, .data, .data, .data, .sentinel, .sentinel, .pinned], laidTests := true, laidLooks := .later }
def CodeOpsUptoCardSaid : Prop := Claim7.holds Tryd.pinned (.plain (OpenSpec.upto codeOpsSpec)) codeOpsUptoCard
end Rows
end Go.Proofs.YtfkfgjmhcfagkaaDoor
