/-
  DERIVED. GIVEN WITH THE SEED: THE CARDS: each row of YtnbfebjcfhbhiaaDoorRows.lean that lists a variable, with what it lists TIED to the program's text (the seventh form; the later family's looks); each row that meets fmt, with fmt's text TOLD by the authors' own Lean function (tested against real Go, not proved from fmt's source: count such statements apart). THE CARD IS WHAT COUNTS. Prove the row's statement (the work); the ties are given (YtnbfebjcfhbhiaaDoorTie.lean); close each card by the builder's one call (the guide's Derived/Test/ToyasCard.lean, 'card_holds'). Laid BY PROGRAM, IN A SANDBOX (cutbox-door.mjs). By AI agents, Wed Nov 11 2026. No macro, syntax, notation, axiom, sorry.
-/
import Derived.Test.YtnbfebjcfhbhiaaDoorRows
import GoSem.ClaimSeven
namespace Go.Proofs.YtnbfebjcfhbhiaaDoor
namespace Rows

/-- THE TIED CARD OF 'sluicelaw18.ScriptParse'. -/
def scriptParseCard : Claim7 := { stood := { row := scriptParseRow, standIns := [], harness := (true, "3bc6906f50a0fb92a71a6e67a7671ae2d44d50698433933ebb8688d41506a324"), looks := true }, kinds := [], alts := [], laidByText := true, laidKinds := [.data, .data, .data, .sentinel, .sentinel, .widerDeep, .widerDeep, .data], laidTests := true, laidLooks := .later }
def ScriptParseCardSaid : Prop := Claim7.holds Tryd.pinned (.plain (OpenSpec.ofChange scriptParseSpec)) scriptParseCard

/-- THE TIED CARD OF 'sluicelaw18.ScriptPrint'. -/
def scriptPrintCard : Claim7 := { stood := { row := scriptPrintRow, standIns := [], harness := (true, "3bc6906f50a0fb92a71a6e67a7671ae2d44d50698433933ebb8688d41506a324"), looks := true }, kinds := [], alts := [], laidByText := true, laidKinds := [.data, .data, .data, .sentinel, .sentinel, .widerDeep, .widerDeep, .data], laidTests := true, laidLooks := .later }
def ScriptPrintCardSaid : Prop := Claim7.holds Tryd.pinned (.plain (OpenSpec.ofChange scriptPrintSpec)) scriptPrintCard

/-- THE TIED CARD OF 'sluicelaw18.ScriptAnswers'. -/
def scriptAnswersCard : Claim7 := { stood := { row := scriptAnswersRow, standIns := [], harness := (true, "3bc6906f50a0fb92a71a6e67a7671ae2d44d50698433933ebb8688d41506a324"), looks := true }, kinds := [], alts := [], laidByText := true, laidKinds := [.data, .data, .data, .sentinel, .sentinel, .widerDeep, .widerDeep, .data], laidTests := true, laidLooks := .later }
def ScriptAnswersCardSaid : Prop := Claim7.holds Tryd.pinned (.plain (OpenSpec.ofChange scriptAnswersSpec)) scriptAnswersCard

/-- THE TIED CARD OF 'sluicelaw18.ScriptBack'. -/
def scriptBackCard : Claim7 := { stood := { row := scriptBackRow, standIns := [], harness := (true, "3bc6906f50a0fb92a71a6e67a7671ae2d44d50698433933ebb8688d41506a324"), looks := true }, kinds := [], alts := [], laidByText := true, laidKinds := [.data, .data, .data, .sentinel, .sentinel, .widerDeep, .widerDeep, .data], laidTests := true, laidLooks := .later }
def ScriptBackCardSaid : Prop := Claim7.holds Tryd.pinned (.plain (OpenSpec.ofChange scriptBackSpec)) scriptBackCard

/-- THE TIED CARD OF 'sluicelaw18.ScriptOneForm'. -/
def scriptOneFormCard : Claim7 := { stood := { row := scriptOneFormRow, standIns := [], harness := (true, "3bc6906f50a0fb92a71a6e67a7671ae2d44d50698433933ebb8688d41506a324"), looks := true }, kinds := [], alts := [], laidByText := true, laidKinds := [.data, .data, .data, .sentinel, .sentinel, .widerDeep, .widerDeep, .data], laidTests := true, laidLooks := .later }
def ScriptOneFormCardSaid : Prop := Claim7.holds Tryd.pinned (.plain (OpenSpec.ofChange scriptOneFormSpec)) scriptOneFormCard

/-- THE TIED CARD OF 'sluicelaw18.ScriptPlace'. -/
def scriptPlaceCard : Claim7 := { stood := { row := scriptPlaceRow, standIns := [], harness := (true, "3bc6906f50a0fb92a71a6e67a7671ae2d44d50698433933ebb8688d41506a324"), looks := true }, kinds := [], alts := [], laidByText := true, laidKinds := [.data, .data, .data, .sentinel, .sentinel, .widerDeep, .widerDeep, .data], laidTests := true, laidLooks := .later }
def ScriptPlaceCardSaid : Prop := Claim7.holds Tryd.pinned (.plain (OpenSpec.ofChange scriptPlaceSpec)) scriptPlaceCard

/-- THE TIED CARD OF 'sluicelaw18.ScriptFresh'. -/
def scriptFreshCard : Claim7 := { stood := { row := scriptFreshRow, standIns := [], harness := (true, "3bc6906f50a0fb92a71a6e67a7671ae2d44d50698433933ebb8688d41506a324"), looks := true }, kinds := [], alts := [], laidByText := true, laidKinds := [.data, .data, .data, .sentinel, .sentinel, .widerDeep, .widerDeep, .data], laidTests := true, laidLooks := .later }
def ScriptFreshCardSaid : Prop := Claim7.holds Tryd.pinned (.plain (OpenSpec.ofChange scriptFreshSpec)) scriptFreshCard

/-- THE SECOND FORM's CARD OF 'sluicelaw18.ScriptParse'. -/
def scriptParseUptoCard : Claim7 := { stood := { row := scriptParseUptoRow, standIns := [], harness := (true, "3bc6906f50a0fb92a71a6e67a7671ae2d44d50698433933ebb8688d41506a324"), looks := true }, kinds := [], alts := [], laidByText := true, laidKinds := [.data, .data, .data, .sentinel, .sentinel, .widerDeep, .widerDeep, .data], laidTests := true, laidLooks := .later }
def ScriptParseUptoCardSaid : Prop := Claim7.holds Tryd.pinned (.plain (OpenSpec.upto scriptParseSpec)) scriptParseUptoCard

/-- THE SECOND FORM's CARD OF 'sluicelaw18.ScriptPrint'. -/
def scriptPrintUptoCard : Claim7 := { stood := { row := scriptPrintUptoRow, standIns := [], harness := (true, "3bc6906f50a0fb92a71a6e67a7671ae2d44d50698433933ebb8688d41506a324"), looks := true }, kinds := [], alts := [], laidByText := true, laidKinds := [.data, .data, .data, .sentinel, .sentinel, .widerDeep, .widerDeep, .data], laidTests := true, laidLooks := .later }
def ScriptPrintUptoCardSaid : Prop := Claim7.holds Tryd.pinned (.plain (OpenSpec.upto scriptPrintSpec)) scriptPrintUptoCard

/-- THE SECOND FORM's CARD OF 'sluicelaw18.ScriptAnswers'. -/
def scriptAnswersUptoCard : Claim7 := { stood := { row := scriptAnswersUptoRow, standIns := [], harness := (true, "3bc6906f50a0fb92a71a6e67a7671ae2d44d50698433933ebb8688d41506a324"), looks := true }, kinds := [], alts := [], laidByText := true, laidKinds := [.data, .data, .data, .sentinel, .sentinel, .widerDeep, .widerDeep, .data], laidTests := true, laidLooks := .later }
def ScriptAnswersUptoCardSaid : Prop := Claim7.holds Tryd.pinned (.plain (OpenSpec.upto scriptAnswersSpec)) scriptAnswersUptoCard

/-- THE SECOND FORM's CARD OF 'sluicelaw18.ScriptBack'. -/
def scriptBackUptoCard : Claim7 := { stood := { row := scriptBackUptoRow, standIns := [], harness := (true, "3bc6906f50a0fb92a71a6e67a7671ae2d44d50698433933ebb8688d41506a324"), looks := true }, kinds := [], alts := [], laidByText := true, laidKinds := [.data, .data, .data, .sentinel, .sentinel, .widerDeep, .widerDeep, .data], laidTests := true, laidLooks := .later }
def ScriptBackUptoCardSaid : Prop := Claim7.holds Tryd.pinned (.plain (OpenSpec.upto scriptBackSpec)) scriptBackUptoCard

/-- THE SECOND FORM's CARD OF 'sluicelaw18.ScriptOneForm'. -/
def scriptOneFormUptoCard : Claim7 := { stood := { row := scriptOneFormUptoRow, standIns := [], harness := (true, "3bc6906f50a0fb92a71a6e67a7671ae2d44d50698433933ebb8688d41506a324"), looks := true }, kinds := [], alts := [], laidByText := true, laidKinds := [.data, .data, .data, .sentinel, .sentinel, .widerDeep, .widerDeep, .data], laidTests := true, laidLooks := .later }
def ScriptOneFormUptoCardSaid : Prop := Claim7.holds Tryd.pinned (.plain (OpenSpec.upto scriptOneFormSpec)) scriptOneFormUptoCard

/-- THE SECOND FORM's CARD OF 'sluicelaw18.ScriptPlace'. -/
def scriptPlaceUptoCard : Claim7 := { stood := { row := scriptPlaceUptoRow, standIns := [], harness := (true, "3bc6906f50a0fb92a71a6e67a7671ae2d44d50698433933ebb8688d41506a324"), looks := true }, kinds := [], alts := [], laidByText := true, laidKinds := [.data, .data, .data, .sentinel, .sentinel, .widerDeep, .widerDeep, .data], laidTests := true, laidLooks := .later }
def ScriptPlaceUptoCardSaid : Prop := Claim7.holds Tryd.pinned (.plain (OpenSpec.upto scriptPlaceSpec)) scriptPlaceUptoCard

/-- THE SECOND FORM's CARD OF 'sluicelaw18.ScriptFresh'. -/
def scriptFreshUptoCard : Claim7 := { stood := { row := scriptFreshUptoRow, standIns := [], harness := (true, "3bc6906f50a0fb92a71a6e67a7671ae2d44d50698433933ebb8688d41506a324"), looks := true }, kinds := [], alts := [], laidByText := true, laidKinds := [.data, .data, .data, .sentinel, .sentinel, .widerDeep, .widerDeep, .data], laidTests := true, laidLooks := .later }
def ScriptFreshUptoCardSaid : Prop := Claim7.holds Tryd.pinned (.plain (OpenSpec.upto scriptFreshSpec)) scriptFreshUptoCard
end Rows
end Go.Proofs.YtnbfebjcfhbhiaaDoor
