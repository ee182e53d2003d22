/-
  No cell of these rows narrows 'for every input' (looked for: loops, veiled, ifaces, maps, wideKeys, modest, calm, conditions, laid).
  DERIVED. THE GIVEN ROWS OF THIS SEAT. 12 by the template 'for every input the law returns true; each argument reads behind the call as it read before'; 0 by the template 'total and deterministic' (their statements: YtbkgidaagfighaaTotals.lean).
  GIVEN WITH THE SEED: the statements are not yours to turn. If you find one false, say at which input.
  Laid BY PROGRAM, IN A SANDBOX (cutbox-rows.mjs): the forced cells as the released guide's own fill.sh prints them over the translation 5f26509fa39c75d9… (all of the seat's roots in one cut). By AI agents, Wed Nov 11 2026. No macro, syntax, notation, axiom, sorry.
-/
import Derived.Test.YtbkgidaagfighaaChecked
import GoSem.Claim
import GoSem.ClaimJoined
import GoSem.ClaimMapViews
import Derived.JoinedTies
import Derived.KernelRfl
namespace Go.Proofs.Ytbkgidaagfighaa
/- THE CELL 'sum', in the pinned program and in every row, IS THE sha256 OF THE DUMP (.gsa) THAT YtbkgidaagfighaaProg.lean LOADS. Nothing in Lean hashes anything: it is a label: what it is worth is what the hold of that sum in a sandbox is worth. -/
noncomputable def Try.pinned : Pinned := { name := "ytbkgidaagfighaa", sum := "5f26509fa39c75d9797069d4ca76058b5b9b1fa21873223148bc1c5e522c95b0", checked := Try.checked }
namespace Rows
def none {H : Type} : Left H := { results := [], args := [] }

/-- 'laws.FnExactStatusName': WHATEVER THE INPUT: true; the input reads as it did. -/
def fnExactStatusNameSpec : ChangeSpec := { name := "fnExactStatusName", fn := fun _ => fun
  | [d] => { results := [.lit (.bool true)], args := [d] }
  | _ => none }
def fnExactStatusNameRow : OpenClaim := { program := "ytbkgidaagfighaa", sum := "5f26509fa39c75d9797069d4ca76058b5b9b1fa21873223148bc1c5e522c95b0", func := "loop.example/g00833/laws.FnExactStatusName", spec := "fnExactStatusName", apart := false }
def FnExactStatusNameSaid : Prop := fnExactStatusNameRow.holds Try.pinned (OpenSpec.ofChange fnExactStatusNameSpec)

/-- ITS FALSE NEIGHBOUR: 'it returns false'. Refute it at one input. -/
def fnExactStatusNameWrong : ChangeSpec := { name := "fnExactStatusName", fn := fun _ => fun
  | [d] => { results := [.lit (.bool false)], args := [d] }
  | _ => none }
def FnExactStatusNameWrongFalsely : Prop := fnExactStatusNameRow.holds Try.pinned (OpenSpec.ofChange fnExactStatusNameWrong)

/-- 'laws.FnExactStatusNamed': WHATEVER THE INPUT: true; the input reads as it did. -/
def fnExactStatusNamedSpec : ChangeSpec := { name := "fnExactStatusNamed", fn := fun _ => fun
  | [d] => { results := [.lit (.bool true)], args := [d] }
  | _ => none }
def fnExactStatusNamedRow : OpenClaim := { program := "ytbkgidaagfighaa", sum := "5f26509fa39c75d9797069d4ca76058b5b9b1fa21873223148bc1c5e522c95b0", func := "loop.example/g00833/laws.FnExactStatusNamed", spec := "fnExactStatusNamed", apart := false }
def FnExactStatusNamedSaid : Prop := fnExactStatusNamedRow.holds Try.pinned (OpenSpec.ofChange fnExactStatusNamedSpec)

/-- ITS FALSE NEIGHBOUR: 'it returns false'. Refute it at one input. -/
def fnExactStatusNamedWrong : ChangeSpec := { name := "fnExactStatusNamed", fn := fun _ => fun
  | [d] => { results := [.lit (.bool false)], args := [d] }
  | _ => none }
def FnExactStatusNamedWrongFalsely : Prop := fnExactStatusNamedRow.holds Try.pinned (OpenSpec.ofChange fnExactStatusNamedWrong)

/-- 'laws.FnExactIsFault': WHATEVER THE INPUT: true; the input reads as it did. -/
def fnExactIsFaultSpec : ChangeSpec := { name := "fnExactIsFault", fn := fun _ => fun
  | [d] => { results := [.lit (.bool true)], args := [d] }
  | _ => none }
def fnExactIsFaultRow : OpenClaim := { program := "ytbkgidaagfighaa", sum := "5f26509fa39c75d9797069d4ca76058b5b9b1fa21873223148bc1c5e522c95b0", func := "loop.example/g00833/laws.FnExactIsFault", spec := "fnExactIsFault", apart := false }
def FnExactIsFaultSaid : Prop := fnExactIsFaultRow.holds Try.pinned (OpenSpec.ofChange fnExactIsFaultSpec)

/-- ITS FALSE NEIGHBOUR: 'it returns false'. Refute it at one input. -/
def fnExactIsFaultWrong : ChangeSpec := { name := "fnExactIsFault", fn := fun _ => fun
  | [d] => { results := [.lit (.bool false)], args := [d] }
  | _ => none }
def FnExactIsFaultWrongFalsely : Prop := fnExactIsFaultRow.holds Try.pinned (OpenSpec.ofChange fnExactIsFaultWrong)

/-- 'laws.FnExactSlipPlaces': WHATEVER THE INPUT: true; the input reads as it did. -/
def fnExactSlipPlacesSpec : ChangeSpec := { name := "fnExactSlipPlaces", fn := fun _ => fun
  | [d] => { results := [.lit (.bool true)], args := [d] }
  | _ => none }
def fnExactSlipPlacesRow : OpenClaim := { program := "ytbkgidaagfighaa", sum := "5f26509fa39c75d9797069d4ca76058b5b9b1fa21873223148bc1c5e522c95b0", func := "loop.example/g00833/laws.FnExactSlipPlaces", spec := "fnExactSlipPlaces", apart := false }
def FnExactSlipPlacesSaid : Prop := fnExactSlipPlacesRow.holds Try.pinned (OpenSpec.ofChange fnExactSlipPlacesSpec)

/-- ITS FALSE NEIGHBOUR: 'it returns false'. Refute it at one input. -/
def fnExactSlipPlacesWrong : ChangeSpec := { name := "fnExactSlipPlaces", fn := fun _ => fun
  | [d] => { results := [.lit (.bool false)], args := [d] }
  | _ => none }
def FnExactSlipPlacesWrongFalsely : Prop := fnExactSlipPlacesRow.holds Try.pinned (OpenSpec.ofChange fnExactSlipPlacesWrong)

/-- 'laws.FnExactIsScript': WHATEVER THE INPUT: true; the input reads as it did. -/
def fnExactIsScriptSpec : ChangeSpec := { name := "fnExactIsScript", fn := fun _ => fun
  | [d] => { results := [.lit (.bool true)], args := [d] }
  | _ => none }
def fnExactIsScriptRow : OpenClaim := { program := "ytbkgidaagfighaa", sum := "5f26509fa39c75d9797069d4ca76058b5b9b1fa21873223148bc1c5e522c95b0", func := "loop.example/g00833/laws.FnExactIsScript", spec := "fnExactIsScript", unfollowed := true, recurses := true, apart := false }
def FnExactIsScriptSaid : Prop := fnExactIsScriptRow.holds Try.pinned (OpenSpec.ofChange fnExactIsScriptSpec)

/-- ITS FALSE NEIGHBOUR: 'it returns false'. Refute it at one input. -/
def fnExactIsScriptWrong : ChangeSpec := { name := "fnExactIsScript", fn := fun _ => fun
  | [d] => { results := [.lit (.bool false)], args := [d] }
  | _ => none }
def FnExactIsScriptWrongFalsely : Prop := fnExactIsScriptRow.holds Try.pinned (OpenSpec.ofChange fnExactIsScriptWrong)

/-- 'laws.FnExactWithinRun': WHATEVER THE INPUT: true; the input reads as it did. -/
def fnExactWithinRunSpec : ChangeSpec := { name := "fnExactWithinRun", fn := fun _ => fun
  | [d1, d2] => { results := [.lit (.bool true)], args := [d1, d2] }
  | _ => none }
def fnExactWithinRunRow : OpenClaim := { program := "ytbkgidaagfighaa", sum := "5f26509fa39c75d9797069d4ca76058b5b9b1fa21873223148bc1c5e522c95b0", func := "loop.example/g00833/laws.FnExactWithinRun", spec := "fnExactWithinRun", apart := false }
def FnExactWithinRunSaid : Prop := fnExactWithinRunRow.holds Try.pinned (OpenSpec.ofChange fnExactWithinRunSpec)

/-- ITS FALSE NEIGHBOUR: 'it returns false'. Refute it at one input. -/
def fnExactWithinRunWrong : ChangeSpec := { name := "fnExactWithinRun", fn := fun _ => fun
  | [d1, d2] => { results := [.lit (.bool false)], args := [d1, d2] }
  | _ => none }
def FnExactWithinRunWrongFalsely : Prop := fnExactWithinRunRow.holds Try.pinned (OpenSpec.ofChange fnExactWithinRunWrong)

/-- 'laws.FnExactUndoFault': WHATEVER THE INPUT: true; the input reads as it did. -/
def fnExactUndoFaultSpec : ChangeSpec := { name := "fnExactUndoFault", fn := fun _ => fun
  | [d1, d2] => { results := [.lit (.bool true)], args := [d1, d2] }
  | _ => none }
def fnExactUndoFaultRow : OpenClaim := { program := "ytbkgidaagfighaa", sum := "5f26509fa39c75d9797069d4ca76058b5b9b1fa21873223148bc1c5e522c95b0", func := "loop.example/g00833/laws.FnExactUndoFault", spec := "fnExactUndoFault", apart := false }
def FnExactUndoFaultSaid : Prop := fnExactUndoFaultRow.holds Try.pinned (OpenSpec.ofChange fnExactUndoFaultSpec)

/-- ITS FALSE NEIGHBOUR: 'it returns false'. Refute it at one input. -/
def fnExactUndoFaultWrong : ChangeSpec := { name := "fnExactUndoFault", fn := fun _ => fun
  | [d1, d2] => { results := [.lit (.bool false)], args := [d1, d2] }
  | _ => none }
def FnExactUndoFaultWrongFalsely : Prop := fnExactUndoFaultRow.holds Try.pinned (OpenSpec.ofChange fnExactUndoFaultWrong)

/-- 'laws.FnExactFlipScript': WHATEVER THE INPUT: true; the input reads as it did. -/
def fnExactFlipScriptSpec : ChangeSpec := { name := "fnExactFlipScript", fn := fun _ => fun
  | [d] => { results := [.lit (.bool true)], args := [d] }
  | _ => none }
def fnExactFlipScriptRow : OpenClaim := { program := "ytbkgidaagfighaa", sum := "5f26509fa39c75d9797069d4ca76058b5b9b1fa21873223148bc1c5e522c95b0", func := "loop.example/g00833/laws.FnExactFlipScript", spec := "fnExactFlipScript", apart := false }
def FnExactFlipScriptSaid : Prop := fnExactFlipScriptRow.holds Try.pinned (OpenSpec.ofChange fnExactFlipScriptSpec)

/-- ITS FALSE NEIGHBOUR: 'it returns false'. Refute it at one input. -/
def fnExactFlipScriptWrong : ChangeSpec := { name := "fnExactFlipScript", fn := fun _ => fun
  | [d] => { results := [.lit (.bool false)], args := [d] }
  | _ => none }
def FnExactFlipScriptWrongFalsely : Prop := fnExactFlipScriptRow.holds Try.pinned (OpenSpec.ofChange fnExactFlipScriptWrong)

/-- 'laws.FnExactCountSlips': WHATEVER THE INPUT: true; the input reads as it did. -/
def fnExactCountSlipsSpec : ChangeSpec := { name := "fnExactCountSlips", fn := fun _ => fun
  | [d] => { results := [.lit (.bool true)], args := [d] }
  | _ => none }
def fnExactCountSlipsRow : OpenClaim := { program := "ytbkgidaagfighaa", sum := "5f26509fa39c75d9797069d4ca76058b5b9b1fa21873223148bc1c5e522c95b0", func := "loop.example/g00833/laws.FnExactCountSlips", spec := "fnExactCountSlips", unfollowed := true, recurses := true, apart := false }
def FnExactCountSlipsSaid : Prop := fnExactCountSlipsRow.holds Try.pinned (OpenSpec.ofChange fnExactCountSlipsSpec)

/-- ITS FALSE NEIGHBOUR: 'it returns false'. Refute it at one input. -/
def fnExactCountSlipsWrong : ChangeSpec := { name := "fnExactCountSlips", fn := fun _ => fun
  | [d] => { results := [.lit (.bool false)], args := [d] }
  | _ => none }
def FnExactCountSlipsWrongFalsely : Prop := fnExactCountSlipsRow.holds Try.pinned (OpenSpec.ofChange fnExactCountSlipsWrong)

/-- 'laws.FnExactSameVerdict': WHATEVER THE INPUT: true; the input reads as it did. -/
def fnExactSameVerdictSpec : ChangeSpec := { name := "fnExactSameVerdict", fn := fun _ => fun
  | [d1, d2] => { results := [.lit (.bool true)], args := [d1, d2] }
  | _ => none }
def fnExactSameVerdictRow : OpenClaim := { program := "ytbkgidaagfighaa", sum := "5f26509fa39c75d9797069d4ca76058b5b9b1fa21873223148bc1c5e522c95b0", func := "loop.example/g00833/laws.FnExactSameVerdict", spec := "fnExactSameVerdict", apart := false }
def FnExactSameVerdictSaid : Prop := fnExactSameVerdictRow.holds Try.pinned (OpenSpec.ofChange fnExactSameVerdictSpec)

/-- ITS FALSE NEIGHBOUR: 'it returns false'. Refute it at one input. -/
def fnExactSameVerdictWrong : ChangeSpec := { name := "fnExactSameVerdict", fn := fun _ => fun
  | [d1, d2] => { results := [.lit (.bool false)], args := [d1, d2] }
  | _ => none }
def FnExactSameVerdictWrongFalsely : Prop := fnExactSameVerdictRow.holds Try.pinned (OpenSpec.ofChange fnExactSameVerdictWrong)

/-- 'laws.FnExactInvertCells': WHATEVER THE INPUT: true; the input reads as it did. -/
def fnExactInvertCellsSpec : ChangeSpec := { name := "fnExactInvertCells", fn := fun _ => fun
  | [d1, d2] => { results := [.lit (.bool true)], args := [d1, d2] }
  | _ => none }
def fnExactInvertCellsRow : OpenClaim := { program := "ytbkgidaagfighaa", sum := "5f26509fa39c75d9797069d4ca76058b5b9b1fa21873223148bc1c5e522c95b0", func := "loop.example/g00833/laws.FnExactInvertCells", spec := "fnExactInvertCells", apart := false }
def FnExactInvertCellsSaid : Prop := fnExactInvertCellsRow.holds Try.pinned (OpenSpec.ofChange fnExactInvertCellsSpec)

/-- ITS FALSE NEIGHBOUR: 'it returns false'. Refute it at one input. -/
def fnExactInvertCellsWrong : ChangeSpec := { name := "fnExactInvertCells", fn := fun _ => fun
  | [d1, d2] => { results := [.lit (.bool false)], args := [d1, d2] }
  | _ => none }
def FnExactInvertCellsWrongFalsely : Prop := fnExactInvertCellsRow.holds Try.pinned (OpenSpec.ofChange fnExactInvertCellsWrong)

/-- 'laws.FnExactPreambleOf': WHATEVER THE INPUT: true; the input reads as it did. -/
def fnExactPreambleOfSpec : ChangeSpec := { name := "fnExactPreambleOf", fn := fun _ => fun
  | [d] => { results := [.lit (.bool true)], args := [d] }
  | _ => none }
def fnExactPreambleOfRow : OpenClaim := { program := "ytbkgidaagfighaa", sum := "5f26509fa39c75d9797069d4ca76058b5b9b1fa21873223148bc1c5e522c95b0", func := "loop.example/g00833/laws.FnExactPreambleOf", spec := "fnExactPreambleOf", apart := false }
def FnExactPreambleOfSaid : Prop := fnExactPreambleOfRow.holds Try.pinned (OpenSpec.ofChange fnExactPreambleOfSpec)

/-- ITS FALSE NEIGHBOUR: 'it returns false'. Refute it at one input. -/
def fnExactPreambleOfWrong : ChangeSpec := { name := "fnExactPreambleOf", fn := fun _ => fun
  | [d] => { results := [.lit (.bool false)], args := [d] }
  | _ => none }
def FnExactPreambleOfWrongFalsely : Prop := fnExactPreambleOfRow.holds Try.pinned (OpenSpec.ofChange fnExactPreambleOfWrong)

/- THE SECOND FORM. 'bulk': how many values and letters a reading holds, each counted each time it is reached (what is shared counts as often as it is met; a slice's spare places count too). A statement '..UptoSaid' is the law's where the arguments, and the package variables that the reading takes, are together of bulk at most 1048576: NARROWER than '..Said'. Prove '..Said' where nothing that the law and all that it calls make is longer than what came in: it says more and counts as full. Else prove '..UptoSaid'. A law counts once. -/
mutual
def uptoBulk {H : Type} : DataW H → Nat
  | .lit (.string bytes) => bytes.length + 1
  | .lit _ => 1
  | .nil => 1
  | .ptr d => uptoBulk d + 1
  | .slice elems spare => uptoBulkAll elems + uptoBulkAll spare + 1
  | .agg parts => uptoBulkAll parts + 1
  | .iface _ d => uptoBulk d + 1
  | .map entries => uptoBulkEntries entries + 1
  | .held _ => 1
def uptoBulkAll {H : Type} : List (DataW H) → Nat
  | [] => 0
  | d :: r => uptoBulk d + uptoBulkAll r
def uptoBulkEntries {H : Type} : List (Lit × DataW H) → Nat
  | [] => 0
  | x :: r => uptoBulkEntry x + uptoBulkEntries r
def uptoBulkEntry {H : Type} : Lit × DataW H → Nat
  | (.string bytes, d) => bytes.length + uptoBulk d + 1
  | (_, d) => uptoBulk d + 1
 end
def uptoSmall : (H : Type) → List (DataW H) → Bool := fun _ ds => decide (uptoBulkAll ds ≤ 1048576)
def OpenSpec.upto (s : _root_.Go.ChangeSpec) : _root_.Go.OpenSpec := { _root_.Go.OpenSpec.ofChange s with cond := some uptoSmall }

/-- 'laws.FnExactStatusName', WHERE WHAT IT READS IS OF BULK AT MOST 1048576: true; the input reads as it did. -/
def fnExactStatusNameUptoRow : OpenClaim := { program := "ytbkgidaagfighaa", sum := "5f26509fa39c75d9797069d4ca76058b5b9b1fa21873223148bc1c5e522c95b0", func := "loop.example/g00833/laws.FnExactStatusName", spec := "fnExactStatusName", apart := false, narrowed := true }
def FnExactStatusNameUptoSaid : Prop := fnExactStatusNameUptoRow.holds Try.pinned (OpenSpec.upto fnExactStatusNameSpec)

/-- 'laws.FnExactStatusNamed', WHERE WHAT IT READS IS OF BULK AT MOST 1048576: true; the input reads as it did. -/
def fnExactStatusNamedUptoRow : OpenClaim := { program := "ytbkgidaagfighaa", sum := "5f26509fa39c75d9797069d4ca76058b5b9b1fa21873223148bc1c5e522c95b0", func := "loop.example/g00833/laws.FnExactStatusNamed", spec := "fnExactStatusNamed", apart := false, narrowed := true }
def FnExactStatusNamedUptoSaid : Prop := fnExactStatusNamedUptoRow.holds Try.pinned (OpenSpec.upto fnExactStatusNamedSpec)

/-- 'laws.FnExactIsFault', WHERE WHAT IT READS IS OF BULK AT MOST 1048576: true; the input reads as it did. -/
def fnExactIsFaultUptoRow : OpenClaim := { program := "ytbkgidaagfighaa", sum := "5f26509fa39c75d9797069d4ca76058b5b9b1fa21873223148bc1c5e522c95b0", func := "loop.example/g00833/laws.FnExactIsFault", spec := "fnExactIsFault", apart := false, narrowed := true }
def FnExactIsFaultUptoSaid : Prop := fnExactIsFaultUptoRow.holds Try.pinned (OpenSpec.upto fnExactIsFaultSpec)

/-- 'laws.FnExactSlipPlaces', WHERE WHAT IT READS IS OF BULK AT MOST 1048576: true; the input reads as it did. -/
def fnExactSlipPlacesUptoRow : OpenClaim := { program := "ytbkgidaagfighaa", sum := "5f26509fa39c75d9797069d4ca76058b5b9b1fa21873223148bc1c5e522c95b0", func := "loop.example/g00833/laws.FnExactSlipPlaces", spec := "fnExactSlipPlaces", apart := false, narrowed := true }
def FnExactSlipPlacesUptoSaid : Prop := fnExactSlipPlacesUptoRow.holds Try.pinned (OpenSpec.upto fnExactSlipPlacesSpec)

/-- 'laws.FnExactIsScript', WHERE WHAT IT READS IS OF BULK AT MOST 1048576: true; the input reads as it did. -/
def fnExactIsScriptUptoRow : OpenClaim := { program := "ytbkgidaagfighaa", sum := "5f26509fa39c75d9797069d4ca76058b5b9b1fa21873223148bc1c5e522c95b0", func := "loop.example/g00833/laws.FnExactIsScript", spec := "fnExactIsScript", unfollowed := true, recurses := true, apart := false, narrowed := true }
def FnExactIsScriptUptoSaid : Prop := fnExactIsScriptUptoRow.holds Try.pinned (OpenSpec.upto fnExactIsScriptSpec)

/-- 'laws.FnExactWithinRun', WHERE WHAT IT READS IS OF BULK AT MOST 1048576: true; the input reads as it did. -/
def fnExactWithinRunUptoRow : OpenClaim := { program := "ytbkgidaagfighaa", sum := "5f26509fa39c75d9797069d4ca76058b5b9b1fa21873223148bc1c5e522c95b0", func := "loop.example/g00833/laws.FnExactWithinRun", spec := "fnExactWithinRun", apart := false, narrowed := true }
def FnExactWithinRunUptoSaid : Prop := fnExactWithinRunUptoRow.holds Try.pinned (OpenSpec.upto fnExactWithinRunSpec)

/-- 'laws.FnExactUndoFault', WHERE WHAT IT READS IS OF BULK AT MOST 1048576: true; the input reads as it did. -/
def fnExactUndoFaultUptoRow : OpenClaim := { program := "ytbkgidaagfighaa", sum := "5f26509fa39c75d9797069d4ca76058b5b9b1fa21873223148bc1c5e522c95b0", func := "loop.example/g00833/laws.FnExactUndoFault", spec := "fnExactUndoFault", apart := false, narrowed := true }
def FnExactUndoFaultUptoSaid : Prop := fnExactUndoFaultUptoRow.holds Try.pinned (OpenSpec.upto fnExactUndoFaultSpec)

/-- 'laws.FnExactFlipScript', WHERE WHAT IT READS IS OF BULK AT MOST 1048576: true; the input reads as it did. -/
def fnExactFlipScriptUptoRow : OpenClaim := { program := "ytbkgidaagfighaa", sum := "5f26509fa39c75d9797069d4ca76058b5b9b1fa21873223148bc1c5e522c95b0", func := "loop.example/g00833/laws.FnExactFlipScript", spec := "fnExactFlipScript", apart := false, narrowed := true }
def FnExactFlipScriptUptoSaid : Prop := fnExactFlipScriptUptoRow.holds Try.pinned (OpenSpec.upto fnExactFlipScriptSpec)

/-- 'laws.FnExactCountSlips', WHERE WHAT IT READS IS OF BULK AT MOST 1048576: true; the input reads as it did. -/
def fnExactCountSlipsUptoRow : OpenClaim := { program := "ytbkgidaagfighaa", sum := "5f26509fa39c75d9797069d4ca76058b5b9b1fa21873223148bc1c5e522c95b0", func := "loop.example/g00833/laws.FnExactCountSlips", spec := "fnExactCountSlips", unfollowed := true, recurses := true, apart := false, narrowed := true }
def FnExactCountSlipsUptoSaid : Prop := fnExactCountSlipsUptoRow.holds Try.pinned (OpenSpec.upto fnExactCountSlipsSpec)

/-- 'laws.FnExactSameVerdict', WHERE WHAT IT READS IS OF BULK AT MOST 1048576: true; the input reads as it did. -/
def fnExactSameVerdictUptoRow : OpenClaim := { program := "ytbkgidaagfighaa", sum := "5f26509fa39c75d9797069d4ca76058b5b9b1fa21873223148bc1c5e522c95b0", func := "loop.example/g00833/laws.FnExactSameVerdict", spec := "fnExactSameVerdict", apart := false, narrowed := true }
def FnExactSameVerdictUptoSaid : Prop := fnExactSameVerdictUptoRow.holds Try.pinned (OpenSpec.upto fnExactSameVerdictSpec)

/-- 'laws.FnExactInvertCells', WHERE WHAT IT READS IS OF BULK AT MOST 1048576: true; the input reads as it did. -/
def fnExactInvertCellsUptoRow : OpenClaim := { program := "ytbkgidaagfighaa", sum := "5f26509fa39c75d9797069d4ca76058b5b9b1fa21873223148bc1c5e522c95b0", func := "loop.example/g00833/laws.FnExactInvertCells", spec := "fnExactInvertCells", apart := false, narrowed := true }
def FnExactInvertCellsUptoSaid : Prop := fnExactInvertCellsUptoRow.holds Try.pinned (OpenSpec.upto fnExactInvertCellsSpec)

/-- 'laws.FnExactPreambleOf', WHERE WHAT IT READS IS OF BULK AT MOST 1048576: true; the input reads as it did. -/
def fnExactPreambleOfUptoRow : OpenClaim := { program := "ytbkgidaagfighaa", sum := "5f26509fa39c75d9797069d4ca76058b5b9b1fa21873223148bc1c5e522c95b0", func := "loop.example/g00833/laws.FnExactPreambleOf", spec := "fnExactPreambleOf", apart := false, narrowed := true }
def FnExactPreambleOfUptoSaid : Prop := fnExactPreambleOfUptoRow.holds Try.pinned (OpenSpec.upto fnExactPreambleOfSpec)

end Rows
end Go.Proofs.Ytbkgidaagfighaa
