/-
  DERIVED. GIVEN WITH THE SEED: THE CARDS: each row of YtcinohmhhglpjaaDoorRows.lean that lists a variable, with what it lists TIED to the program's text (the seventh form; the later family's looks); each row that meets fmt, with fmt's text TOLD by the authors' own Lean function (tested against real Go, not proved from fmt's source: count such statements apart). THE CARD IS WHAT COUNTS. Prove the row's statement (the work); the ties are given (YtcinohmhhglpjaaDoorTie.lean); close each card by the builder's one call (the guide's Derived/Test/ToyasCard.lean, 'card_holds'). Laid BY PROGRAM, IN A SANDBOX (cutbox-door.mjs). By AI agents, Wed Nov 11 2026. No macro, syntax, notation, axiom, sorry.
-/
import Derived.Test.YtcinohmhhglpjaaDoorRows
import GoSem.ClaimSeven
namespace Go.Proofs.YtcinohmhhglpjaaDoor
namespace Rows

/-- THE TIED CARD OF 'scupperlaw21.ScriptWrites'. -/
def scriptWritesCard : Claim7 := { stood := { row := scriptWritesRow, standIns := [], harness := (true, "bc26faf7c77aa933ed5a368f1b8a9184b783a756b9a0b051135ced1131ae2b25"), looks := true }, kinds := [], alts := [], laidByText := true, laidKinds := [.data, .data, .data, .widerDeep], laidTests := true, laidLooks := .later }
def ScriptWritesCardSaid : Prop := Claim7.holds Tryd.pinned (.plain (OpenSpec.ofChange scriptWritesSpec)) scriptWritesCard

/-- THE TIED CARD OF 'scupperlaw21.ScriptActs'. -/
def scriptActsCard : Claim7 := { stood := { row := scriptActsRow, standIns := [], harness := (true, "bc26faf7c77aa933ed5a368f1b8a9184b783a756b9a0b051135ced1131ae2b25"), looks := true }, kinds := [], alts := [], laidByText := true, laidKinds := [.data, .data, .data, .data, .sentinel, .sentinel, .widerDeep, .pinned], laidTests := true, laidLooks := .later }
def ScriptActsCardSaid : Prop := Claim7.holds Tryd.pinned (.plain (OpenSpec.ofChange scriptActsSpec)) scriptActsCard

/-- THE TIED CARD OF 'scupperlaw21.ScriptReads'. -/
def scriptReadsCard : Claim7 := { stood := { row := scriptReadsRow, standIns := [], harness := (true, "bc26faf7c77aa933ed5a368f1b8a9184b783a756b9a0b051135ced1131ae2b25"), looks := true }, kinds := [], alts := [], laidByText := true, laidKinds := [.data, .data, .data, .data, .sentinel, .sentinel, .widerDeep, .pinned], laidTests := true, laidLooks := .later }
def ScriptReadsCardSaid : Prop := Claim7.holds Tryd.pinned (.plain (OpenSpec.ofChange scriptReadsSpec)) scriptReadsCard

/-- THE TIED CARD OF 'scupperlaw21.ScriptCalls'. -/
def scriptCallsCard : Claim7 := { stood := { row := scriptCallsRow, standIns := [], harness := (true, "bc26faf7c77aa933ed5a368f1b8a9184b783a756b9a0b051135ced1131ae2b25"), looks := true }, kinds := [], alts := [], laidByText := true, laidKinds := [.data, .data, .data, .data, .sentinel, .sentinel, .widerDeep, .pinned], laidTests := true, laidLooks := .later }
def ScriptCallsCardSaid : Prop := Claim7.holds Tryd.pinned (.plain (OpenSpec.ofChange scriptCallsSpec)) scriptCallsCard

/-- THE TIED CARD OF 'scupperlaw21.ScriptTexts'. -/
def scriptTextsCard : Claim7 := { stood := { row := scriptTextsRow, standIns := [], harness := (true, "bc26faf7c77aa933ed5a368f1b8a9184b783a756b9a0b051135ced1131ae2b25"), looks := true }, kinds := [], alts := [], laidByText := true, laidKinds := [.data, .data, .data, .data, .sentinel, .sentinel, .widerDeep, .pinned], laidTests := true, laidLooks := .later }
def ScriptTextsCardSaid : Prop := Claim7.holds Tryd.pinned (.plain (OpenSpec.ofChange scriptTextsSpec)) scriptTextsCard

/-- THE TIED CARD OF 'scupperlaw21.ScriptBack'. -/
def scriptBackCard : Claim7 := { stood := { row := scriptBackRow, standIns := [], harness := (true, "bc26faf7c77aa933ed5a368f1b8a9184b783a756b9a0b051135ced1131ae2b25"), looks := true }, kinds := [], alts := [], laidByText := true, laidKinds := [.data, .data, .data, .data, .sentinel, .sentinel, .widerDeep, .pinned], laidTests := true, laidLooks := .later }
def ScriptBackCardSaid : Prop := Claim7.holds Tryd.pinned (.plain (OpenSpec.ofChange scriptBackSpec)) scriptBackCard

/-- THE SECOND FORM's CARD OF 'scupperlaw21.ScriptWrites'. -/
def scriptWritesUptoCard : Claim7 := { stood := { row := scriptWritesUptoRow, standIns := [], harness := (true, "bc26faf7c77aa933ed5a368f1b8a9184b783a756b9a0b051135ced1131ae2b25"), looks := true }, kinds := [], alts := [], laidByText := true, laidKinds := [.data, .data, .data, .widerDeep], laidTests := true, laidLooks := .later }
def ScriptWritesUptoCardSaid : Prop := Claim7.holds Tryd.pinned (.plain (OpenSpec.upto scriptWritesSpec)) scriptWritesUptoCard

/-- THE SECOND FORM's CARD OF 'scupperlaw21.ScriptActs'. -/
def scriptActsUptoCard : Claim7 := { stood := { row := scriptActsUptoRow, standIns := [], harness := (true, "bc26faf7c77aa933ed5a368f1b8a9184b783a756b9a0b051135ced1131ae2b25"), looks := true }, kinds := [], alts := [], laidByText := true, laidKinds := [.data, .data, .data, .data, .sentinel, .sentinel, .widerDeep, .pinned], laidTests := true, laidLooks := .later }
def ScriptActsUptoCardSaid : Prop := Claim7.holds Tryd.pinned (.plain (OpenSpec.upto scriptActsSpec)) scriptActsUptoCard

/-- THE SECOND FORM's CARD OF 'scupperlaw21.ScriptReads'. -/
def scriptReadsUptoCard : Claim7 := { stood := { row := scriptReadsUptoRow, standIns := [], harness := (true, "bc26faf7c77aa933ed5a368f1b8a9184b783a756b9a0b051135ced1131ae2b25"), looks := true }, kinds := [], alts := [], laidByText := true, laidKinds := [.data, .data, .data, .data, .sentinel, .sentinel, .widerDeep, .pinned], laidTests := true, laidLooks := .later }
def ScriptReadsUptoCardSaid : Prop := Claim7.holds Tryd.pinned (.plain (OpenSpec.upto scriptReadsSpec)) scriptReadsUptoCard

/-- THE SECOND FORM's CARD OF 'scupperlaw21.ScriptCalls'. -/
def scriptCallsUptoCard : Claim7 := { stood := { row := scriptCallsUptoRow, standIns := [], harness := (true, "bc26faf7c77aa933ed5a368f1b8a9184b783a756b9a0b051135ced1131ae2b25"), looks := true }, kinds := [], alts := [], laidByText := true, laidKinds := [.data, .data, .data, .data, .sentinel, .sentinel, .widerDeep, .pinned], laidTests := true, laidLooks := .later }
def ScriptCallsUptoCardSaid : Prop := Claim7.holds Tryd.pinned (.plain (OpenSpec.upto scriptCallsSpec)) scriptCallsUptoCard

/-- THE SECOND FORM's CARD OF 'scupperlaw21.ScriptTexts'. -/
def scriptTextsUptoCard : Claim7 := { stood := { row := scriptTextsUptoRow, standIns := [], harness := (true, "bc26faf7c77aa933ed5a368f1b8a9184b783a756b9a0b051135ced1131ae2b25"), looks := true }, kinds := [], alts := [], laidByText := true, laidKinds := [.data, .data, .data, .data, .sentinel, .sentinel, .widerDeep, .pinned], laidTests := true, laidLooks := .later }
def ScriptTextsUptoCardSaid : Prop := Claim7.holds Tryd.pinned (.plain (OpenSpec.upto scriptTextsSpec)) scriptTextsUptoCard

/-- THE SECOND FORM's CARD OF 'scupperlaw21.ScriptBack'. -/
def scriptBackUptoCard : Claim7 := { stood := { row := scriptBackUptoRow, standIns := [], harness := (true, "bc26faf7c77aa933ed5a368f1b8a9184b783a756b9a0b051135ced1131ae2b25"), looks := true }, kinds := [], alts := [], laidByText := true, laidKinds := [.data, .data, .data, .data, .sentinel, .sentinel, .widerDeep, .pinned], laidTests := true, laidLooks := .later }
def ScriptBackUptoCardSaid : Prop := Claim7.holds Tryd.pinned (.plain (OpenSpec.upto scriptBackSpec)) scriptBackUptoCard
end Rows
end Go.Proofs.YtcinohmhhglpjaaDoor
