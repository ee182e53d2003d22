/-
  NARROWER THAN 'FOR EVERY INPUT', by the rows' own cells (each row's printed sentence says how): FnExactIsSendable: laid · FnExactSilentSlot: laid · FnExactFrameFor: laid · FnExactSealedSlot: laid · FnExactSlotCells: laid · FnExactSlotSamples: laid.
  DERIVED. THE GIVEN ROWS OF THIS SEAT. 6 by the template 'for every input the law returns true; each argument reads behind the call as it read before'; 0 by the template 'total and deterministic' (their statements: YtlmmhnddlmgaiaaGreatDoorTotals.lean).
  GIVEN WITH THE SEED: the statements are not yours to turn. If you find one false, say at which input.
  Laid BY PROGRAM, IN A SANDBOX (cutbox-rows.mjs): the forced cells as the released guide's own fill.sh prints them over the translation 0b6fc31cc6825c7f… (all of the seat's roots in one cut). By AI agents, Wed Nov 11 2026. No macro, syntax, notation, axiom, sorry.
-/
import Derived.Test.YtlmmhnddlmgaiaaGreatDoorChecked
import GoSem.PinnedTables
import GoSem.Claim
import GoSem.ClaimJoined
import GoSem.ClaimMapViews
import Derived.JoinedTies
import Derived.KernelRfl
namespace Go.Proofs.YtlmmhnddlmgaiaaGreatDoor
/- THE CELL 'sum', in the pinned program and in every row, IS THE sha256 OF THE DUMP (.gsa) THAT YtlmmhnddlmgaiaaGreatDoorProg.lean LOADS. Nothing in Lean hashes anything: it is a label: what it is worth is what the hold of that sum in a sandbox is worth. -/
noncomputable def Tryz.pinned : Pinned := { name := "ytlmmhnddlmgaiaagreatdoor", sum := "0b6fc31cc6825c7f590cb143a08b73378acb59fb0d01017e8962aff723e2943c", checked := Tryz.checked }
namespace Rows
def none {H : Type} : Left H := { results := [], args := [] }

/- WHAT THE LISTED PACKAGE-LEVEL VARIABLES READ AS WHEN THE CALL BEGINS. Each datum BY PROGRAM (the guide's laid-datum.mjs) off the statement by which the dump's own 'gosem.cut.vars' lays the variable. In a bare row this is a premise. The card (YtlmmhnddlmgaiaaGreatDoorCards.lean) ties it to the program's text. -/
def laid_unicode_utf8_acceptRanges {H : Type} : DataW H := .agg [.agg [.lit (.int .u8 128), .lit (.int .u8 191)], .agg [.lit (.int .u8 160), .lit (.int .u8 191)], .agg [.lit (.int .u8 128), .lit (.int .u8 159)], .agg [.lit (.int .u8 144), .lit (.int .u8 191)], .agg [.lit (.int .u8 128), .lit (.int .u8 143)], .agg [.lit (.int .u8 0), .lit (.int .u8 0)], .agg [.lit (.int .u8 0), .lit (.int .u8 0)], .agg [.lit (.int .u8 0), .lit (.int .u8 0)], .agg [.lit (.int .u8 0), .lit (.int .u8 0)], .agg [.lit (.int .u8 0), .lit (.int .u8 0)], .agg [.lit (.int .u8 0), .lit (.int .u8 0)], .agg [.lit (.int .u8 0), .lit (.int .u8 0)], .agg [.lit (.int .u8 0), .lit (.int .u8 0)], .agg [.lit (.int .u8 0), .lit (.int .u8 0)], .agg [.lit (.int .u8 0), .lit (.int .u8 0)], .agg [.lit (.int .u8 0), .lit (.int .u8 0)]]
/-- One of Go's own tables, pinned by name: the form's constant. -/
def laid_unicode_utf8_first : DataW Unit := Go.Pinned.utf8First

/-- 'laws.FnExactIsSendable': WHATEVER THE INPUT: true; the input reads as it did. -/
def fnExactIsSendableSpec : ChangeSpec := { name := "fnExactIsSendable", fn := fun _ => fun
  | [d1, d2, d3] => { results := [.lit (.bool true)], args := [d1, d2, d3] }
  | _ => none }
def fnExactIsSendableRow : OpenClaim := { program := "ytlmmhnddlmgaiaagreatdoor", sum := "0b6fc31cc6825c7f590cb143a08b73378acb59fb0d01017e8962aff723e2943c", func := "loop.example/g00833/laws.FnExactIsSendable", spec := "fnExactIsSendable", inPlace := ["internal/bytealg.IndexByteString", "internal/bytealg.IndexString"], unfollowed := true, recurses := true, named := ["unicode/utf8.first", "unicode/utf8.acceptRanges", "internal/bytealg.MaxLen"], apart := false, laid := [("unicode/utf8.acceptRanges", laid_unicode_utf8_acceptRanges), ("unicode/utf8.first", laid_unicode_utf8_first)] }
def FnExactIsSendableSaid : Prop := fnExactIsSendableRow.holds Tryz.pinned (OpenSpec.ofChange fnExactIsSendableSpec)

/-- ITS FALSE NEIGHBOUR: 'it returns false'. Refute it at one input. -/
def fnExactIsSendableWrong : ChangeSpec := { name := "fnExactIsSendable", fn := fun _ => fun
  | [d1, d2, d3] => { results := [.lit (.bool false)], args := [d1, d2, d3] }
  | _ => none }
def FnExactIsSendableWrongFalsely : Prop := fnExactIsSendableRow.holds Tryz.pinned (OpenSpec.ofChange fnExactIsSendableWrong)

/-- 'laws.FnExactSilentSlot': WHATEVER THE INPUT: true; the input reads as it did. -/
def fnExactSilentSlotSpec : ChangeSpec := { name := "fnExactSilentSlot", fn := fun _ => fun
  | [d1, d2] => { results := [.lit (.bool true)], args := [d1, d2] }
  | _ => none }
def fnExactSilentSlotRow : OpenClaim := { program := "ytlmmhnddlmgaiaagreatdoor", sum := "0b6fc31cc6825c7f590cb143a08b73378acb59fb0d01017e8962aff723e2943c", func := "loop.example/g00833/laws.FnExactSilentSlot", spec := "fnExactSilentSlot", inPlace := ["internal/bytealg.IndexByteString", "internal/bytealg.IndexString"], unfollowed := true, recurses := true, named := ["unicode/utf8.first", "unicode/utf8.acceptRanges", "internal/bytealg.MaxLen"], apart := false, laid := [("unicode/utf8.acceptRanges", laid_unicode_utf8_acceptRanges), ("unicode/utf8.first", laid_unicode_utf8_first)] }
def FnExactSilentSlotSaid : Prop := fnExactSilentSlotRow.holds Tryz.pinned (OpenSpec.ofChange fnExactSilentSlotSpec)

/-- ITS FALSE NEIGHBOUR: 'it returns false'. Refute it at one input. -/
def fnExactSilentSlotWrong : ChangeSpec := { name := "fnExactSilentSlot", fn := fun _ => fun
  | [d1, d2] => { results := [.lit (.bool false)], args := [d1, d2] }
  | _ => none }
def FnExactSilentSlotWrongFalsely : Prop := fnExactSilentSlotRow.holds Tryz.pinned (OpenSpec.ofChange fnExactSilentSlotWrong)

/-- 'laws.FnExactFrameFor': WHATEVER THE INPUT: true; the input reads as it did. -/
def fnExactFrameForSpec : ChangeSpec := { name := "fnExactFrameFor", fn := fun _ => fun
  | [d1, d2, d3, d4] => { results := [.lit (.bool true)], args := [d1, d2, d3, d4] }
  | _ => none }
def fnExactFrameForRow : OpenClaim := { program := "ytlmmhnddlmgaiaagreatdoor", sum := "0b6fc31cc6825c7f590cb143a08b73378acb59fb0d01017e8962aff723e2943c", func := "loop.example/g00833/laws.FnExactFrameFor", spec := "fnExactFrameFor", inPlace := ["internal/bytealg.IndexByteString", "internal/bytealg.IndexString"], unfollowed := true, recurses := true, named := ["unicode/utf8.first", "unicode/utf8.acceptRanges", "internal/bytealg.MaxLen"], apart := false, laid := [("unicode/utf8.acceptRanges", laid_unicode_utf8_acceptRanges), ("unicode/utf8.first", laid_unicode_utf8_first)] }
def FnExactFrameForSaid : Prop := fnExactFrameForRow.holds Tryz.pinned (OpenSpec.ofChange fnExactFrameForSpec)

/-- ITS FALSE NEIGHBOUR: 'it returns false'. Refute it at one input. -/
def fnExactFrameForWrong : ChangeSpec := { name := "fnExactFrameFor", fn := fun _ => fun
  | [d1, d2, d3, d4] => { results := [.lit (.bool false)], args := [d1, d2, d3, d4] }
  | _ => none }
def FnExactFrameForWrongFalsely : Prop := fnExactFrameForRow.holds Tryz.pinned (OpenSpec.ofChange fnExactFrameForWrong)

/-- 'laws.FnExactSealedSlot': WHATEVER THE INPUT: true; the input reads as it did. -/
def fnExactSealedSlotSpec : ChangeSpec := { name := "fnExactSealedSlot", fn := fun _ => fun
  | [d1, d2, d3] => { results := [.lit (.bool true)], args := [d1, d2, d3] }
  | _ => none }
def fnExactSealedSlotRow : OpenClaim := { program := "ytlmmhnddlmgaiaagreatdoor", sum := "0b6fc31cc6825c7f590cb143a08b73378acb59fb0d01017e8962aff723e2943c", func := "loop.example/g00833/laws.FnExactSealedSlot", spec := "fnExactSealedSlot", inPlace := ["internal/bytealg.IndexByteString", "internal/bytealg.IndexString"], unfollowed := true, recurses := true, named := ["unicode/utf8.first", "unicode/utf8.acceptRanges", "internal/bytealg.MaxLen"], apart := false, laid := [("unicode/utf8.acceptRanges", laid_unicode_utf8_acceptRanges), ("unicode/utf8.first", laid_unicode_utf8_first)] }
def FnExactSealedSlotSaid : Prop := fnExactSealedSlotRow.holds Tryz.pinned (OpenSpec.ofChange fnExactSealedSlotSpec)

/-- ITS FALSE NEIGHBOUR: 'it returns false'. Refute it at one input. -/
def fnExactSealedSlotWrong : ChangeSpec := { name := "fnExactSealedSlot", fn := fun _ => fun
  | [d1, d2, d3] => { results := [.lit (.bool false)], args := [d1, d2, d3] }
  | _ => none }
def FnExactSealedSlotWrongFalsely : Prop := fnExactSealedSlotRow.holds Tryz.pinned (OpenSpec.ofChange fnExactSealedSlotWrong)

/-- 'laws.FnExactSlotCells': WHATEVER THE INPUT: true; the input reads as it did. -/
def fnExactSlotCellsSpec : ChangeSpec := { name := "fnExactSlotCells", fn := fun _ => fun
  | [d1, d2, d3] => { results := [.lit (.bool true)], args := [d1, d2, d3] }
  | _ => none }
def fnExactSlotCellsRow : OpenClaim := { program := "ytlmmhnddlmgaiaagreatdoor", sum := "0b6fc31cc6825c7f590cb143a08b73378acb59fb0d01017e8962aff723e2943c", func := "loop.example/g00833/laws.FnExactSlotCells", spec := "fnExactSlotCells", inPlace := ["internal/bytealg.IndexByteString", "internal/bytealg.IndexString"], unfollowed := true, recurses := true, named := ["unicode/utf8.first", "unicode/utf8.acceptRanges", "internal/bytealg.MaxLen"], apart := false, laid := [("unicode/utf8.acceptRanges", laid_unicode_utf8_acceptRanges), ("unicode/utf8.first", laid_unicode_utf8_first)] }
def FnExactSlotCellsSaid : Prop := fnExactSlotCellsRow.holds Tryz.pinned (OpenSpec.ofChange fnExactSlotCellsSpec)

/-- ITS FALSE NEIGHBOUR: 'it returns false'. Refute it at one input. -/
def fnExactSlotCellsWrong : ChangeSpec := { name := "fnExactSlotCells", fn := fun _ => fun
  | [d1, d2, d3] => { results := [.lit (.bool false)], args := [d1, d2, d3] }
  | _ => none }
def FnExactSlotCellsWrongFalsely : Prop := fnExactSlotCellsRow.holds Tryz.pinned (OpenSpec.ofChange fnExactSlotCellsWrong)

/-- 'laws.FnExactSlotSamples': WHATEVER THE INPUT: true; the input reads as it did. -/
def fnExactSlotSamplesSpec : ChangeSpec := { name := "fnExactSlotSamples", fn := fun _ => fun
  | [d1, d2, d3] => { results := [.lit (.bool true)], args := [d1, d2, d3] }
  | _ => none }
def fnExactSlotSamplesRow : OpenClaim := { program := "ytlmmhnddlmgaiaagreatdoor", sum := "0b6fc31cc6825c7f590cb143a08b73378acb59fb0d01017e8962aff723e2943c", func := "loop.example/g00833/laws.FnExactSlotSamples", spec := "fnExactSlotSamples", inPlace := ["internal/bytealg.IndexByteString", "internal/bytealg.IndexString"], unfollowed := true, recurses := true, named := ["unicode/utf8.first", "unicode/utf8.acceptRanges", "internal/bytealg.MaxLen"], apart := false, laid := [("unicode/utf8.acceptRanges", laid_unicode_utf8_acceptRanges), ("unicode/utf8.first", laid_unicode_utf8_first)] }
def FnExactSlotSamplesSaid : Prop := fnExactSlotSamplesRow.holds Tryz.pinned (OpenSpec.ofChange fnExactSlotSamplesSpec)

/-- ITS FALSE NEIGHBOUR: 'it returns false'. Refute it at one input. -/
def fnExactSlotSamplesWrong : ChangeSpec := { name := "fnExactSlotSamples", fn := fun _ => fun
  | [d1, d2, d3] => { results := [.lit (.bool false)], args := [d1, d2, d3] }
  | _ => none }
def FnExactSlotSamplesWrongFalsely : Prop := fnExactSlotSamplesRow.holds Tryz.pinned (OpenSpec.ofChange fnExactSlotSamplesWrong)

/- THE SECOND FORM. 'bulk': how many values and letters a reading holds, each counted each time it is reached (what is shared counts as often as it is met; a slice's spare places count too). A statement '..UptoSaid' is the law's where the arguments, and the package variables that the reading takes, are together of bulk at most 1048576: NARROWER than '..Said'. Prove '..Said' where nothing that the law and all that it calls make is longer than what came in: it says more and counts as full. Else prove '..UptoSaid'. A law counts once. -/
mutual
def uptoBulk {H : Type} : DataW H → Nat
  | .lit (.string bytes) => bytes.length + 1
  | .lit _ => 1
  | .nil => 1
  | .ptr d => uptoBulk d + 1
  | .slice elems spare => uptoBulkAll elems + uptoBulkAll spare + 1
  | .agg parts => uptoBulkAll parts + 1
  | .iface _ d => uptoBulk d + 1
  | .map entries => uptoBulkEntries entries + 1
  | .held _ => 1
def uptoBulkAll {H : Type} : List (DataW H) → Nat
  | [] => 0
  | d :: r => uptoBulk d + uptoBulkAll r
def uptoBulkEntries {H : Type} : List (Lit × DataW H) → Nat
  | [] => 0
  | x :: r => uptoBulkEntry x + uptoBulkEntries r
def uptoBulkEntry {H : Type} : Lit × DataW H → Nat
  | (.string bytes, d) => bytes.length + uptoBulk d + 1
  | (_, d) => uptoBulk d + 1
 end
def uptoSmall : (H : Type) → List (DataW H) → Bool := fun _ ds => decide (uptoBulkAll ds ≤ 1048576)
def OpenSpec.upto (s : _root_.Go.ChangeSpec) : _root_.Go.OpenSpec := { _root_.Go.OpenSpec.ofChange s with cond := some uptoSmall }

/-- 'laws.FnExactIsSendable', WHERE WHAT IT READS IS OF BULK AT MOST 1048576: true; the input reads as it did. -/
def fnExactIsSendableUptoRow : OpenClaim := { program := "ytlmmhnddlmgaiaagreatdoor", sum := "0b6fc31cc6825c7f590cb143a08b73378acb59fb0d01017e8962aff723e2943c", func := "loop.example/g00833/laws.FnExactIsSendable", spec := "fnExactIsSendable", inPlace := ["internal/bytealg.IndexByteString", "internal/bytealg.IndexString"], unfollowed := true, recurses := true, named := ["unicode/utf8.first", "unicode/utf8.acceptRanges", "internal/bytealg.MaxLen"], apart := false, laid := [("unicode/utf8.acceptRanges", laid_unicode_utf8_acceptRanges), ("unicode/utf8.first", laid_unicode_utf8_first)], narrowed := true }
def FnExactIsSendableUptoSaid : Prop := fnExactIsSendableUptoRow.holds Tryz.pinned (OpenSpec.upto fnExactIsSendableSpec)

/-- 'laws.FnExactSilentSlot', WHERE WHAT IT READS IS OF BULK AT MOST 1048576: true; the input reads as it did. -/
def fnExactSilentSlotUptoRow : OpenClaim := { program := "ytlmmhnddlmgaiaagreatdoor", sum := "0b6fc31cc6825c7f590cb143a08b73378acb59fb0d01017e8962aff723e2943c", func := "loop.example/g00833/laws.FnExactSilentSlot", spec := "fnExactSilentSlot", inPlace := ["internal/bytealg.IndexByteString", "internal/bytealg.IndexString"], unfollowed := true, recurses := true, named := ["unicode/utf8.first", "unicode/utf8.acceptRanges", "internal/bytealg.MaxLen"], apart := false, laid := [("unicode/utf8.acceptRanges", laid_unicode_utf8_acceptRanges), ("unicode/utf8.first", laid_unicode_utf8_first)], narrowed := true }
def FnExactSilentSlotUptoSaid : Prop := fnExactSilentSlotUptoRow.holds Tryz.pinned (OpenSpec.upto fnExactSilentSlotSpec)

/-- 'laws.FnExactFrameFor', WHERE WHAT IT READS IS OF BULK AT MOST 1048576: true; the input reads as it did. -/
def fnExactFrameForUptoRow : OpenClaim := { program := "ytlmmhnddlmgaiaagreatdoor", sum := "0b6fc31cc6825c7f590cb143a08b73378acb59fb0d01017e8962aff723e2943c", func := "loop.example/g00833/laws.FnExactFrameFor", spec := "fnExactFrameFor", inPlace := ["internal/bytealg.IndexByteString", "internal/bytealg.IndexString"], unfollowed := true, recurses := true, named := ["unicode/utf8.first", "unicode/utf8.acceptRanges", "internal/bytealg.MaxLen"], apart := false, laid := [("unicode/utf8.acceptRanges", laid_unicode_utf8_acceptRanges), ("unicode/utf8.first", laid_unicode_utf8_first)], narrowed := true }
def FnExactFrameForUptoSaid : Prop := fnExactFrameForUptoRow.holds Tryz.pinned (OpenSpec.upto fnExactFrameForSpec)

/-- 'laws.FnExactSealedSlot', WHERE WHAT IT READS IS OF BULK AT MOST 1048576: true; the input reads as it did. -/
def fnExactSealedSlotUptoRow : OpenClaim := { program := "ytlmmhnddlmgaiaagreatdoor", sum := "0b6fc31cc6825c7f590cb143a08b73378acb59fb0d01017e8962aff723e2943c", func := "loop.example/g00833/laws.FnExactSealedSlot", spec := "fnExactSealedSlot", inPlace := ["internal/bytealg.IndexByteString", "internal/bytealg.IndexString"], unfollowed := true, recurses := true, named := ["unicode/utf8.first", "unicode/utf8.acceptRanges", "internal/bytealg.MaxLen"], apart := false, laid := [("unicode/utf8.acceptRanges", laid_unicode_utf8_acceptRanges), ("unicode/utf8.first", laid_unicode_utf8_first)], narrowed := true }
def FnExactSealedSlotUptoSaid : Prop := fnExactSealedSlotUptoRow.holds Tryz.pinned (OpenSpec.upto fnExactSealedSlotSpec)

/-- 'laws.FnExactSlotCells', WHERE WHAT IT READS IS OF BULK AT MOST 1048576: true; the input reads as it did. -/
def fnExactSlotCellsUptoRow : OpenClaim := { program := "ytlmmhnddlmgaiaagreatdoor", sum := "0b6fc31cc6825c7f590cb143a08b73378acb59fb0d01017e8962aff723e2943c", func := "loop.example/g00833/laws.FnExactSlotCells", spec := "fnExactSlotCells", inPlace := ["internal/bytealg.IndexByteString", "internal/bytealg.IndexString"], unfollowed := true, recurses := true, named := ["unicode/utf8.first", "unicode/utf8.acceptRanges", "internal/bytealg.MaxLen"], apart := false, laid := [("unicode/utf8.acceptRanges", laid_unicode_utf8_acceptRanges), ("unicode/utf8.first", laid_unicode_utf8_first)], narrowed := true }
def FnExactSlotCellsUptoSaid : Prop := fnExactSlotCellsUptoRow.holds Tryz.pinned (OpenSpec.upto fnExactSlotCellsSpec)

/-- 'laws.FnExactSlotSamples', WHERE WHAT IT READS IS OF BULK AT MOST 1048576: true; the input reads as it did. -/
def fnExactSlotSamplesUptoRow : OpenClaim := { program := "ytlmmhnddlmgaiaagreatdoor", sum := "0b6fc31cc6825c7f590cb143a08b73378acb59fb0d01017e8962aff723e2943c", func := "loop.example/g00833/laws.FnExactSlotSamples", spec := "fnExactSlotSamples", inPlace := ["internal/bytealg.IndexByteString", "internal/bytealg.IndexString"], unfollowed := true, recurses := true, named := ["unicode/utf8.first", "unicode/utf8.acceptRanges", "internal/bytealg.MaxLen"], apart := false, laid := [("unicode/utf8.acceptRanges", laid_unicode_utf8_acceptRanges), ("unicode/utf8.first", laid_unicode_utf8_first)], narrowed := true }
def FnExactSlotSamplesUptoSaid : Prop := fnExactSlotSamplesUptoRow.holds Tryz.pinned (OpenSpec.upto fnExactSlotSamplesSpec)

end Rows
end Go.Proofs.YtlmmhnddlmgaiaaGreatDoor
