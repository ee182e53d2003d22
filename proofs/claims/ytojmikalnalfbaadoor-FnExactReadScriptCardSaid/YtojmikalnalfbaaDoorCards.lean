/-
  DERIVED. GIVEN WITH THE SEED: THE CARDS: each row of YtojmikalnalfbaaDoorRows.lean that lists a variable, with what it lists TIED to the program's text (the seventh form; the later family's looks); each row that meets fmt, with fmt's text TOLD by the authors' own Lean function (tested against real Go, not proved from fmt's source: count such statements apart). THE CARD IS WHAT COUNTS. Prove the row's statement (the work); the ties are given (YtojmikalnalfbaaDoorTie.lean); close each card by the builder's one call (the guide's Derived/Test/ToyasCard.lean, 'card_holds'). Laid BY PROGRAM, IN A SANDBOX (cutbox-door.mjs). By AI agents, Wed Nov 11 2026. No macro, syntax, notation, axiom, sorry.
-/
import Derived.Test.YtojmikalnalfbaaDoorRows
import GoSem.ClaimSeven
namespace Go.Proofs.YtojmikalnalfbaaDoor
namespace Rows

/-- THE TIED CARD OF 'laws.FnExactFaultText'. -/
def fnExactFaultTextCard : Claim7 := { stood := { row := fnExactFaultTextRow, standIns := [], harness := (true, "2794fdbb076ac9efb354db054d8c50ee50e9950d65359507c6be2c6a2852d9f4"), looks := true }, kinds := [], alts := [], laidByText := true, laidKinds := [.data, .data, .data], laidTests := true, laidLooks := .later }
def FnExactFaultTextCardSaid : Prop := Claim7.holds Tryd.pinned (.plain (OpenSpec.ofChange fnExactFaultTextSpec)) fnExactFaultTextCard

/-- THE TIED CARD OF 'laws.FnExactScriptText'. -/
def fnExactScriptTextCard : Claim7 := { stood := { row := fnExactScriptTextRow, standIns := [], harness := (true, "2794fdbb076ac9efb354db054d8c50ee50e9950d65359507c6be2c6a2852d9f4"), looks := true }, kinds := [], alts := [], laidByText := true, laidKinds := [.data, .data, .data], laidTests := true, laidLooks := .later }
def FnExactScriptTextCardSaid : Prop := Claim7.holds Tryd.pinned (.plain (OpenSpec.ofChange fnExactScriptTextSpec)) fnExactScriptTextCard

/-- THE TIED CARD OF 'laws.FnExactReadFault'. -/
def fnExactReadFaultCard : Claim7 := { stood := { row := fnExactReadFaultRow, standIns := [], harness := (true, "2794fdbb076ac9efb354db054d8c50ee50e9950d65359507c6be2c6a2852d9f4"), looks := true }, kinds := [], alts := [], laidByText := true, laidKinds := [.data, .data, .data, .data, .sentinel, .sentinel, .pinned], laidTests := true, laidLooks := .later }
def FnExactReadFaultCardSaid : Prop := Claim7.holds Tryd.pinned (.plain (OpenSpec.ofChange fnExactReadFaultSpec)) fnExactReadFaultCard

/-- THE TIED CARD OF 'laws.FnExactReadScript'. -/
def fnExactReadScriptCard : Claim7 := { stood := { row := fnExactReadScriptRow, standIns := [], harness := (true, "2794fdbb076ac9efb354db054d8c50ee50e9950d65359507c6be2c6a2852d9f4"), looks := true }, kinds := [], alts := [], laidByText := true, laidKinds := [.data, .data, .data, .data, .sentinel, .sentinel, .pinned], laidTests := true, laidLooks := .later }
def FnExactReadScriptCardSaid : Prop := Claim7.holds Tryd.pinned (.plain (OpenSpec.ofChange fnExactReadScriptSpec)) fnExactReadScriptCard

/-- THE SECOND FORM's CARD OF 'laws.FnExactFaultText'. -/
def fnExactFaultTextUptoCard : Claim7 := { stood := { row := fnExactFaultTextUptoRow, standIns := [], harness := (true, "2794fdbb076ac9efb354db054d8c50ee50e9950d65359507c6be2c6a2852d9f4"), looks := true }, kinds := [], alts := [], laidByText := true, laidKinds := [.data, .data, .data], laidTests := true, laidLooks := .later }
def FnExactFaultTextUptoCardSaid : Prop := Claim7.holds Tryd.pinned (.plain (OpenSpec.upto fnExactFaultTextSpec)) fnExactFaultTextUptoCard

/-- THE SECOND FORM's CARD OF 'laws.FnExactScriptText'. -/
def fnExactScriptTextUptoCard : Claim7 := { stood := { row := fnExactScriptTextUptoRow, standIns := [], harness := (true, "2794fdbb076ac9efb354db054d8c50ee50e9950d65359507c6be2c6a2852d9f4"), looks := true }, kinds := [], alts := [], laidByText := true, laidKinds := [.data, .data, .data], laidTests := true, laidLooks := .later }
def FnExactScriptTextUptoCardSaid : Prop := Claim7.holds Tryd.pinned (.plain (OpenSpec.upto fnExactScriptTextSpec)) fnExactScriptTextUptoCard

/-- THE SECOND FORM's CARD OF 'laws.FnExactReadFault'. -/
def fnExactReadFaultUptoCard : Claim7 := { stood := { row := fnExactReadFaultUptoRow, standIns := [], harness := (true, "2794fdbb076ac9efb354db054d8c50ee50e9950d65359507c6be2c6a2852d9f4"), looks := true }, kinds := [], alts := [], laidByText := true, laidKinds := [.data, .data, .data, .data, .sentinel, .sentinel, .pinned], laidTests := true, laidLooks := .later }
def FnExactReadFaultUptoCardSaid : Prop := Claim7.holds Tryd.pinned (.plain (OpenSpec.upto fnExactReadFaultSpec)) fnExactReadFaultUptoCard

/-- THE SECOND FORM's CARD OF 'laws.FnExactReadScript'. -/
def fnExactReadScriptUptoCard : Claim7 := { stood := { row := fnExactReadScriptUptoRow, standIns := [], harness := (true, "2794fdbb076ac9efb354db054d8c50ee50e9950d65359507c6be2c6a2852d9f4"), looks := true }, kinds := [], alts := [], laidByText := true, laidKinds := [.data, .data, .data, .data, .sentinel, .sentinel, .pinned], laidTests := true, laidLooks := .later }
def FnExactReadScriptUptoCardSaid : Prop := Claim7.holds Tryd.pinned (.plain (OpenSpec.upto fnExactReadScriptSpec)) fnExactReadScriptUptoCard
end Rows
end Go.Proofs.YtojmikalnalfbaaDoor
