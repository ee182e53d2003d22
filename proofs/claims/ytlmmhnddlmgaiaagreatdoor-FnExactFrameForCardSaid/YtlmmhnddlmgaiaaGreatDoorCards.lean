/-
  DERIVED. GIVEN WITH THE SEED: THE CARDS: each row of YtlmmhnddlmgaiaaGreatDoorRows.lean that lists a variable, with what it lists TIED to the program's text (the seventh form; the later family's looks); each row that meets fmt, with fmt's text TOLD by the authors' own Lean function (tested against real Go, not proved from fmt's source: count such statements apart). THE CARD IS WHAT COUNTS. Prove the row's statement (the work); the ties are given (YtlmmhnddlmgaiaaGreatDoorTie.lean); close each card by the builder's one call (the guide's Derived/Test/ToyasCard.lean, 'card_holds'). Laid BY PROGRAM, IN A SANDBOX (cutbox-door.mjs). By AI agents, Wed Nov 11 2026. No macro, syntax, notation, axiom, sorry.
-/
import Derived.Test.YtlmmhnddlmgaiaaGreatDoorRows
import GoSem.ClaimSeven
namespace Go.Proofs.YtlmmhnddlmgaiaaGreatDoor
namespace Rows

/-- THE TIED CARD OF 'laws.FnExactIsSendable'. -/
def fnExactIsSendableCard : Claim7 := { stood := { row := fnExactIsSendableRow, standIns := [], harness := (true, "ac16fe2ef516c6cefb69b19045a0f483f519c411480c5d5432e5b195993d3f51"), looks := false }, kinds := [], alts := [], laidByText := true, laidKinds := [.data, .pinned], laidTests := true, laidLooks := .later }
def FnExactIsSendableCardSaid : Prop := Claim7.holds Tryz.pinned (.plain (OpenSpec.ofChange fnExactIsSendableSpec)) fnExactIsSendableCard

/-- THE TIED CARD OF 'laws.FnExactSilentSlot'. -/
def fnExactSilentSlotCard : Claim7 := { stood := { row := fnExactSilentSlotRow, standIns := [], harness := (true, "ac16fe2ef516c6cefb69b19045a0f483f519c411480c5d5432e5b195993d3f51"), looks := false }, kinds := [], alts := [], laidByText := true, laidKinds := [.data, .pinned], laidTests := true, laidLooks := .later }
def FnExactSilentSlotCardSaid : Prop := Claim7.holds Tryz.pinned (.plain (OpenSpec.ofChange fnExactSilentSlotSpec)) fnExactSilentSlotCard

/-- THE TIED CARD OF 'laws.FnExactFrameFor'. -/
def fnExactFrameForCard : Claim7 := { stood := { row := fnExactFrameForRow, standIns := [], harness := (true, "ac16fe2ef516c6cefb69b19045a0f483f519c411480c5d5432e5b195993d3f51"), looks := false }, kinds := [], alts := [], laidByText := true, laidKinds := [.data, .pinned], laidTests := true, laidLooks := .later }
def FnExactFrameForCardSaid : Prop := Claim7.holds Tryz.pinned (.plain (OpenSpec.ofChange fnExactFrameForSpec)) fnExactFrameForCard

/-- THE TIED CARD OF 'laws.FnExactSealedSlot'. -/
def fnExactSealedSlotCard : Claim7 := { stood := { row := fnExactSealedSlotRow, standIns := [], harness := (true, "ac16fe2ef516c6cefb69b19045a0f483f519c411480c5d5432e5b195993d3f51"), looks := false }, kinds := [], alts := [], laidByText := true, laidKinds := [.data, .pinned], laidTests := true, laidLooks := .later }
def FnExactSealedSlotCardSaid : Prop := Claim7.holds Tryz.pinned (.plain (OpenSpec.ofChange fnExactSealedSlotSpec)) fnExactSealedSlotCard

/-- THE TIED CARD OF 'laws.FnExactSlotCells'. -/
def fnExactSlotCellsCard : Claim7 := { stood := { row := fnExactSlotCellsRow, standIns := [], harness := (true, "ac16fe2ef516c6cefb69b19045a0f483f519c411480c5d5432e5b195993d3f51"), looks := false }, kinds := [], alts := [], laidByText := true, laidKinds := [.data, .pinned], laidTests := true, laidLooks := .later }
def FnExactSlotCellsCardSaid : Prop := Claim7.holds Tryz.pinned (.plain (OpenSpec.ofChange fnExactSlotCellsSpec)) fnExactSlotCellsCard

/-- THE TIED CARD OF 'laws.FnExactSlotSamples'. -/
def fnExactSlotSamplesCard : Claim7 := { stood := { row := fnExactSlotSamplesRow, standIns := [], harness := (true, "ac16fe2ef516c6cefb69b19045a0f483f519c411480c5d5432e5b195993d3f51"), looks := false }, kinds := [], alts := [], laidByText := true, laidKinds := [.data, .pinned], laidTests := true, laidLooks := .later }
def FnExactSlotSamplesCardSaid : Prop := Claim7.holds Tryz.pinned (.plain (OpenSpec.ofChange fnExactSlotSamplesSpec)) fnExactSlotSamplesCard

/-- THE SECOND FORM's CARD OF 'laws.FnExactIsSendable'. -/
def fnExactIsSendableUptoCard : Claim7 := { stood := { row := fnExactIsSendableUptoRow, standIns := [], harness := (true, "ac16fe2ef516c6cefb69b19045a0f483f519c411480c5d5432e5b195993d3f51"), looks := false }, kinds := [], alts := [], laidByText := true, laidKinds := [.data, .pinned], laidTests := true, laidLooks := .later }
def FnExactIsSendableUptoCardSaid : Prop := Claim7.holds Tryz.pinned (.plain (OpenSpec.upto fnExactIsSendableSpec)) fnExactIsSendableUptoCard

/-- THE SECOND FORM's CARD OF 'laws.FnExactSilentSlot'. -/
def fnExactSilentSlotUptoCard : Claim7 := { stood := { row := fnExactSilentSlotUptoRow, standIns := [], harness := (true, "ac16fe2ef516c6cefb69b19045a0f483f519c411480c5d5432e5b195993d3f51"), looks := false }, kinds := [], alts := [], laidByText := true, laidKinds := [.data, .pinned], laidTests := true, laidLooks := .later }
def FnExactSilentSlotUptoCardSaid : Prop := Claim7.holds Tryz.pinned (.plain (OpenSpec.upto fnExactSilentSlotSpec)) fnExactSilentSlotUptoCard

/-- THE SECOND FORM's CARD OF 'laws.FnExactFrameFor'. -/
def fnExactFrameForUptoCard : Claim7 := { stood := { row := fnExactFrameForUptoRow, standIns := [], harness := (true, "ac16fe2ef516c6cefb69b19045a0f483f519c411480c5d5432e5b195993d3f51"), looks := false }, kinds := [], alts := [], laidByText := true, laidKinds := [.data, .pinned], laidTests := true, laidLooks := .later }
def FnExactFrameForUptoCardSaid : Prop := Claim7.holds Tryz.pinned (.plain (OpenSpec.upto fnExactFrameForSpec)) fnExactFrameForUptoCard

/-- THE SECOND FORM's CARD OF 'laws.FnExactSealedSlot'. -/
def fnExactSealedSlotUptoCard : Claim7 := { stood := { row := fnExactSealedSlotUptoRow, standIns := [], harness := (true, "ac16fe2ef516c6cefb69b19045a0f483f519c411480c5d5432e5b195993d3f51"), looks := false }, kinds := [], alts := [], laidByText := true, laidKinds := [.data, .pinned], laidTests := true, laidLooks := .later }
def FnExactSealedSlotUptoCardSaid : Prop := Claim7.holds Tryz.pinned (.plain (OpenSpec.upto fnExactSealedSlotSpec)) fnExactSealedSlotUptoCard

/-- THE SECOND FORM's CARD OF 'laws.FnExactSlotCells'. -/
def fnExactSlotCellsUptoCard : Claim7 := { stood := { row := fnExactSlotCellsUptoRow, standIns := [], harness := (true, "ac16fe2ef516c6cefb69b19045a0f483f519c411480c5d5432e5b195993d3f51"), looks := false }, kinds := [], alts := [], laidByText := true, laidKinds := [.data, .pinned], laidTests := true, laidLooks := .later }
def FnExactSlotCellsUptoCardSaid : Prop := Claim7.holds Tryz.pinned (.plain (OpenSpec.upto fnExactSlotCellsSpec)) fnExactSlotCellsUptoCard

/-- THE SECOND FORM's CARD OF 'laws.FnExactSlotSamples'. -/
def fnExactSlotSamplesUptoCard : Claim7 := { stood := { row := fnExactSlotSamplesUptoRow, standIns := [], harness := (true, "ac16fe2ef516c6cefb69b19045a0f483f519c411480c5d5432e5b195993d3f51"), looks := false }, kinds := [], alts := [], laidByText := true, laidKinds := [.data, .pinned], laidTests := true, laidLooks := .later }
def FnExactSlotSamplesUptoCardSaid : Prop := Claim7.holds Tryz.pinned (.plain (OpenSpec.upto fnExactSlotSamplesSpec)) fnExactSlotSamplesUptoCard
end Rows
end Go.Proofs.YtlmmhnddlmgaiaaGreatDoor
