/-
  DERIVED. GIVEN WITH THE SEED: THE CARDS: each row of YtjgmpiefndbnaaaGreatDoorRows.lean that lists a variable, with what it lists TIED to the program's text (the seventh form; the later family's looks); each row that meets fmt, with fmt's text TOLD by the authors' own Lean function (tested against real Go, not proved from fmt's source: count such statements apart). THE CARD IS WHAT COUNTS. Prove the row's statement (the work); the ties are given (YtjgmpiefndbnaaaGreatDoorTie.lean); close each card by the builder's one call (the guide's Derived/Test/ToyasCard.lean, 'card_holds'). Laid BY PROGRAM, IN A SANDBOX (cutbox-door.mjs). By AI agents, Wed Nov 11 2026. No macro, syntax, notation, axiom, sorry.
-/
import Derived.Test.YtjgmpiefndbnaaaGreatDoorRows
import GoSem.ClaimSeven
namespace Go.Proofs.YtjgmpiefndbnaaaGreatDoor
namespace Rows

/-- THE TIED CARD OF 'laws.FnExactCauseOf'. -/
def fnExactCauseOfCard : Claim7 := { stood := { row := fnExactCauseOfRow, standIns := [], harness := (true, "2a63800679f056f143f4b24e9de26e369893e392a0b3931ed6c40657c4de7585"), looks := false }, kinds := [], alts := [], laidByText := true, laidKinds := [.data, .pinned], laidTests := true, laidLooks := .later }
def FnExactCauseOfCardSaid : Prop := Claim7.holds Tryz.pinned (.plain (OpenSpec.ofChange fnExactCauseOfSpec)) fnExactCauseOfCard

/-- THE TIED CARD OF 'laws.FnScripted'. -/
def fnScriptedCard : Claim7 := { stood := { row := fnScriptedRow, standIns := [], harness := (true, "2a63800679f056f143f4b24e9de26e369893e392a0b3931ed6c40657c4de7585"), looks := false }, kinds := [], alts := [], laidByText := true, laidKinds := [.data, .pinned], laidTests := true, laidLooks := .later }
def FnScriptedCardSaid : Prop := Claim7.holds Tryz.pinned (.plain (OpenSpec.ofChange fnScriptedSpec)) fnScriptedCard

/-- THE TIED CARD OF 'laws.FnExactSendScripted'. -/
def fnExactSendScriptedCard : Claim7 := { stood := { row := fnExactSendScriptedRow, standIns := [], harness := (true, "2a63800679f056f143f4b24e9de26e369893e392a0b3931ed6c40657c4de7585"), looks := false }, kinds := [], alts := [], laidByText := true, laidKinds := [.data, .pinned], laidTests := true, laidLooks := .later }
def FnExactSendScriptedCardSaid : Prop := Claim7.holds Tryz.pinned (.plain (OpenSpec.ofChange fnExactSendScriptedSpec)) fnExactSendScriptedCard

/-- THE TIED CARD OF 'laws.FnExactReceiveBytes'. -/
def fnExactReceiveBytesCard : Claim7 := { stood := { row := fnExactReceiveBytesRow, standIns := [], harness := (true, "2a63800679f056f143f4b24e9de26e369893e392a0b3931ed6c40657c4de7585"), looks := false }, kinds := [], alts := [], laidByText := true, laidKinds := [.data, .pinned], laidTests := true, laidLooks := .later }
def FnExactReceiveBytesCardSaid : Prop := Claim7.holds Tryz.pinned (.plain (OpenSpec.ofChange fnExactReceiveBytesSpec)) fnExactReceiveBytesCard

/-- THE TIED CARD OF 'laws.FnFramesFor'. -/
def fnFramesForCard : Claim7 := { stood := { row := fnFramesForRow, standIns := [], harness := (true, "2a63800679f056f143f4b24e9de26e369893e392a0b3931ed6c40657c4de7585"), looks := false }, kinds := [], alts := [], laidByText := true, laidKinds := [.data, .pinned], laidTests := true, laidLooks := .later }
def FnFramesForCardSaid : Prop := Claim7.holds Tryz.pinned (.plain (OpenSpec.ofChange fnFramesForSpec)) fnFramesForCard

/-- THE SECOND FORM's CARD OF 'laws.FnExactCauseOf'. -/
def fnExactCauseOfUptoCard : Claim7 := { stood := { row := fnExactCauseOfUptoRow, standIns := [], harness := (true, "2a63800679f056f143f4b24e9de26e369893e392a0b3931ed6c40657c4de7585"), looks := false }, kinds := [], alts := [], laidByText := true, laidKinds := [.data, .pinned], laidTests := true, laidLooks := .later }
def FnExactCauseOfUptoCardSaid : Prop := Claim7.holds Tryz.pinned (.plain (OpenSpec.upto fnExactCauseOfSpec)) fnExactCauseOfUptoCard

/-- THE SECOND FORM's CARD OF 'laws.FnScripted'. -/
def fnScriptedUptoCard : Claim7 := { stood := { row := fnScriptedUptoRow, standIns := [], harness := (true, "2a63800679f056f143f4b24e9de26e369893e392a0b3931ed6c40657c4de7585"), looks := false }, kinds := [], alts := [], laidByText := true, laidKinds := [.data, .pinned], laidTests := true, laidLooks := .later }
def FnScriptedUptoCardSaid : Prop := Claim7.holds Tryz.pinned (.plain (OpenSpec.upto fnScriptedSpec)) fnScriptedUptoCard

/-- THE SECOND FORM's CARD OF 'laws.FnExactSendScripted'. -/
def fnExactSendScriptedUptoCard : Claim7 := { stood := { row := fnExactSendScriptedUptoRow, standIns := [], harness := (true, "2a63800679f056f143f4b24e9de26e369893e392a0b3931ed6c40657c4de7585"), looks := false }, kinds := [], alts := [], laidByText := true, laidKinds := [.data, .pinned], laidTests := true, laidLooks := .later }
def FnExactSendScriptedUptoCardSaid : Prop := Claim7.holds Tryz.pinned (.plain (OpenSpec.upto fnExactSendScriptedSpec)) fnExactSendScriptedUptoCard

/-- THE SECOND FORM's CARD OF 'laws.FnExactReceiveBytes'. -/
def fnExactReceiveBytesUptoCard : Claim7 := { stood := { row := fnExactReceiveBytesUptoRow, standIns := [], harness := (true, "2a63800679f056f143f4b24e9de26e369893e392a0b3931ed6c40657c4de7585"), looks := false }, kinds := [], alts := [], laidByText := true, laidKinds := [.data, .pinned], laidTests := true, laidLooks := .later }
def FnExactReceiveBytesUptoCardSaid : Prop := Claim7.holds Tryz.pinned (.plain (OpenSpec.upto fnExactReceiveBytesSpec)) fnExactReceiveBytesUptoCard

/-- THE SECOND FORM's CARD OF 'laws.FnFramesFor'. -/
def fnFramesForUptoCard : Claim7 := { stood := { row := fnFramesForUptoRow, standIns := [], harness := (true, "2a63800679f056f143f4b24e9de26e369893e392a0b3931ed6c40657c4de7585"), looks := false }, kinds := [], alts := [], laidByText := true, laidKinds := [.data, .pinned], laidTests := true, laidLooks := .later }
def FnFramesForUptoCardSaid : Prop := Claim7.holds Tryz.pinned (.plain (OpenSpec.upto fnFramesForSpec)) fnFramesForUptoCard
end Rows
end Go.Proofs.YtjgmpiefndbnaaaGreatDoor
