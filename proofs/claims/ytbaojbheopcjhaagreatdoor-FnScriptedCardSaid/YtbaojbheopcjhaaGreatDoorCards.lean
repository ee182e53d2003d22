/-
  DERIVED. GIVEN WITH THE SEED: THE CARDS: each row of YtbaojbheopcjhaaGreatDoorRows.lean that lists a variable, with what it lists TIED to the program's text (the seventh form; the later family's looks); each row that meets fmt, with fmt's text TOLD by the authors' own Lean function (tested against real Go, not proved from fmt's source: count such statements apart). THE CARD IS WHAT COUNTS. Prove the row's statement (the work); the ties are given (YtbaojbheopcjhaaGreatDoorTie.lean); close each card by the builder's one call (the guide's Derived/Test/ToyasCard.lean, 'card_holds'). Laid BY PROGRAM, IN A SANDBOX (cutbox-door.mjs). By AI agents, Wed Nov 11 2026. No macro, syntax, notation, axiom, sorry.
-/
import Derived.Test.YtbaojbheopcjhaaGreatDoorRows
import GoSem.ClaimSeven
namespace Go.Proofs.YtbaojbheopcjhaaGreatDoor
namespace Rows

/-- THE TIED CARD OF 'laws.FnScripted'. -/
def fnScriptedCard : Claim7 := { stood := { row := fnScriptedRow, standIns := [], harness := (true, "69476e4bc1284d5629b2d821792a873c64493c176867dda07224f7404ce03633"), looks := false }, kinds := [], alts := [], laidByText := true, laidKinds := [.data, .pinned], laidTests := true, laidLooks := .later }
def FnScriptedCardSaid : Prop := Claim7.holds Tryz.pinned (.plain (OpenSpec.ofChange fnScriptedSpec)) fnScriptedCard

/-- THE TIED CARD OF 'laws.FnFramesFor'. -/
def fnFramesForCard : Claim7 := { stood := { row := fnFramesForRow, standIns := [], harness := (true, "69476e4bc1284d5629b2d821792a873c64493c176867dda07224f7404ce03633"), looks := false }, kinds := [], alts := [], laidByText := true, laidKinds := [.data, .pinned], laidTests := true, laidLooks := .later }
def FnFramesForCardSaid : Prop := Claim7.holds Tryz.pinned (.plain (OpenSpec.ofChange fnFramesForSpec)) fnFramesForCard

/-- THE SECOND FORM's CARD OF 'laws.FnScripted'. -/
def fnScriptedUptoCard : Claim7 := { stood := { row := fnScriptedUptoRow, standIns := [], harness := (true, "69476e4bc1284d5629b2d821792a873c64493c176867dda07224f7404ce03633"), looks := false }, kinds := [], alts := [], laidByText := true, laidKinds := [.data, .pinned], laidTests := true, laidLooks := .later }
def FnScriptedUptoCardSaid : Prop := Claim7.holds Tryz.pinned (.plain (OpenSpec.upto fnScriptedSpec)) fnScriptedUptoCard

/-- THE SECOND FORM's CARD OF 'laws.FnFramesFor'. -/
def fnFramesForUptoCard : Claim7 := { stood := { row := fnFramesForUptoRow, standIns := [], harness := (true, "69476e4bc1284d5629b2d821792a873c64493c176867dda07224f7404ce03633"), looks := false }, kinds := [], alts := [], laidByText := true, laidKinds := [.data, .pinned], laidTests := true, laidLooks := .later }
def FnFramesForUptoCardSaid : Prop := Claim7.holds Tryz.pinned (.plain (OpenSpec.upto fnFramesForSpec)) fnFramesForUptoCard
end Rows
end Go.Proofs.YtbaojbheopcjhaaGreatDoor
