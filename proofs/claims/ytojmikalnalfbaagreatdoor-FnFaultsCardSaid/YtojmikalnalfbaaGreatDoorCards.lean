/-
  DERIVED. GIVEN WITH THE SEED: THE CARDS: each row of YtojmikalnalfbaaGreatDoorRows.lean that lists a variable, with what it lists TIED to the program's text (the seventh form; the later family's looks); each row that meets fmt, with fmt's text TOLD by the authors' own Lean function (tested against real Go, not proved from fmt's source: count such statements apart). THE CARD IS WHAT COUNTS. Prove the row's statement (the work); the ties are given (YtojmikalnalfbaaGreatDoorTie.lean); close each card by the builder's one call (the guide's Derived/Test/ToyasCard.lean, 'card_holds'). Laid BY PROGRAM, IN A SANDBOX (cutbox-door.mjs). By AI agents, Wed Nov 11 2026. No macro, syntax, notation, axiom, sorry.
-/
import Derived.Test.YtojmikalnalfbaaGreatDoorRows
import GoSem.ClaimSeven
namespace Go.Proofs.YtojmikalnalfbaaGreatDoor
namespace Rows

/-- THE TIED CARD OF 'laws.FnFaults'. -/
def fnFaultsCard : Claim7 := { stood := { row := fnFaultsRow, standIns := [], harness := (true, "0f5f8d9fefa7f9f74379533f629b7b4cda308e03e96aacd19cfe6bf170ec7695"), looks := true }, kinds := [], alts := [], laidByText := true, laidKinds := [.data, .data, .data, .data, .sentinel, .sentinel, .pinned], laidTests := true, laidLooks := .later }
def FnFaultsCardSaid : Prop := Claim7.holds Tryz.pinned (.plain (OpenSpec.ofChange fnFaultsSpec)) fnFaultsCard

/-- THE TIED CARD OF 'laws.FnScriptText'. -/
def fnScriptTextCard : Claim7 := { stood := { row := fnScriptTextRow, standIns := [], harness := (true, "0f5f8d9fefa7f9f74379533f629b7b4cda308e03e96aacd19cfe6bf170ec7695"), looks := true }, kinds := [], alts := [], laidByText := true, laidKinds := [.data, .data, .data, .data, .sentinel, .sentinel, .pinned], laidTests := true, laidLooks := .later }
def FnScriptTextCardSaid : Prop := Claim7.holds Tryz.pinned (.plain (OpenSpec.ofChange fnScriptTextSpec)) fnScriptTextCard

/-- THE SECOND FORM's CARD OF 'laws.FnFaults'. -/
def fnFaultsUptoCard : Claim7 := { stood := { row := fnFaultsUptoRow, standIns := [], harness := (true, "0f5f8d9fefa7f9f74379533f629b7b4cda308e03e96aacd19cfe6bf170ec7695"), looks := true }, kinds := [], alts := [], laidByText := true, laidKinds := [.data, .data, .data, .data, .sentinel, .sentinel, .pinned], laidTests := true, laidLooks := .later }
def FnFaultsUptoCardSaid : Prop := Claim7.holds Tryz.pinned (.plain (OpenSpec.upto fnFaultsSpec)) fnFaultsUptoCard

/-- THE SECOND FORM's CARD OF 'laws.FnScriptText'. -/
def fnScriptTextUptoCard : Claim7 := { stood := { row := fnScriptTextUptoRow, standIns := [], harness := (true, "0f5f8d9fefa7f9f74379533f629b7b4cda308e03e96aacd19cfe6bf170ec7695"), looks := true }, kinds := [], alts := [], laidByText := true, laidKinds := [.data, .data, .data, .data, .sentinel, .sentinel, .pinned], laidTests := true, laidLooks := .later }
def FnScriptTextUptoCardSaid : Prop := Claim7.holds Tryz.pinned (.plain (OpenSpec.upto fnScriptTextSpec)) fnScriptTextUptoCard
end Rows
end Go.Proofs.YtojmikalnalfbaaGreatDoor
