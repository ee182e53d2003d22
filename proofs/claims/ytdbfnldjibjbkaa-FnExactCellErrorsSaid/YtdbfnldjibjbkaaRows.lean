/-
  No cell of these rows narrows 'for every input' (looked for: loops, veiled, ifaces, maps, wideKeys, modest, calm, conditions, laid).
  DERIVED. THE GIVEN ROWS OF THIS SEAT. 24 by the template 'for every input the law returns true; each argument reads behind the call as it read before'; 0 by the template 'total and deterministic' (their statements: YtdbfnldjibjbkaaTotals.lean).
  GIVEN WITH THE SEED: the statements are not yours to turn. If you find one false, say at which input.
  Laid BY PROGRAM, IN A SANDBOX (cutbox-rows.mjs): the forced cells as the released guide's own fill.sh prints them over the translation 05d6b7f60b683424… (all of the seat's roots in one cut). By AI agents, Wed Nov 11 2026. No macro, syntax, notation, axiom, sorry.
-/
import Derived.Test.YtdbfnldjibjbkaaChecked
import GoSem.Claim
import GoSem.ClaimJoined
import GoSem.ClaimMapViews
import Derived.JoinedTies
import Derived.KernelRfl
namespace Go.Proofs.Ytdbfnldjibjbkaa
/- THE CELL 'sum', in the pinned program and in every row, IS THE sha256 OF THE DUMP (.gsa) THAT YtdbfnldjibjbkaaProg.lean LOADS. Nothing in Lean hashes anything: it is a label: what it is worth is what the hold of that sum in a sandbox is worth. -/
noncomputable def Try.pinned : Pinned := { name := "ytdbfnldjibjbkaa", sum := "05d6b7f60b683424fcfbd6f6e309f06beb2dac1bb44b3542ef7010e646263aeb", checked := Try.checked }
namespace Rows
def none {H : Type} : Left H := { results := [], args := [] }

/-- 'laws.FnExactStatusNamed': WHATEVER THE INPUT: true; the input reads as it did. -/
def fnExactStatusNamedSpec : ChangeSpec := { name := "fnExactStatusNamed", fn := fun _ => fun
  | [d] => { results := [.lit (.bool true)], args := [d] }
  | _ => none }
def fnExactStatusNamedRow : OpenClaim := { program := "ytdbfnldjibjbkaa", sum := "05d6b7f60b683424fcfbd6f6e309f06beb2dac1bb44b3542ef7010e646263aeb", func := "loop.example/g00833/laws.FnExactStatusNamed", spec := "fnExactStatusNamed", apart := false }
def FnExactStatusNamedSaid : Prop := fnExactStatusNamedRow.holds Try.pinned (OpenSpec.ofChange fnExactStatusNamedSpec)

/-- ITS FALSE NEIGHBOUR: 'it returns false'. Refute it at one input. -/
def fnExactStatusNamedWrong : ChangeSpec := { name := "fnExactStatusNamed", fn := fun _ => fun
  | [d] => { results := [.lit (.bool false)], args := [d] }
  | _ => none }
def FnExactStatusNamedWrongFalsely : Prop := fnExactStatusNamedRow.holds Try.pinned (OpenSpec.ofChange fnExactStatusNamedWrong)

/-- 'laws.FnExactSlipPlaces': WHATEVER THE INPUT: true; the input reads as it did. -/
def fnExactSlipPlacesSpec : ChangeSpec := { name := "fnExactSlipPlaces", fn := fun _ => fun
  | [d] => { results := [.lit (.bool true)], args := [d] }
  | _ => none }
def fnExactSlipPlacesRow : OpenClaim := { program := "ytdbfnldjibjbkaa", sum := "05d6b7f60b683424fcfbd6f6e309f06beb2dac1bb44b3542ef7010e646263aeb", func := "loop.example/g00833/laws.FnExactSlipPlaces", spec := "fnExactSlipPlaces", apart := false }
def FnExactSlipPlacesSaid : Prop := fnExactSlipPlacesRow.holds Try.pinned (OpenSpec.ofChange fnExactSlipPlacesSpec)

/-- ITS FALSE NEIGHBOUR: 'it returns false'. Refute it at one input. -/
def fnExactSlipPlacesWrong : ChangeSpec := { name := "fnExactSlipPlaces", fn := fun _ => fun
  | [d] => { results := [.lit (.bool false)], args := [d] }
  | _ => none }
def FnExactSlipPlacesWrongFalsely : Prop := fnExactSlipPlacesRow.holds Try.pinned (OpenSpec.ofChange fnExactSlipPlacesWrong)

/-- 'laws.FnExactIsScript': WHATEVER THE INPUT: true; the input reads as it did. -/
def fnExactIsScriptSpec : ChangeSpec := { name := "fnExactIsScript", fn := fun _ => fun
  | [d] => { results := [.lit (.bool true)], args := [d] }
  | _ => none }
def fnExactIsScriptRow : OpenClaim := { program := "ytdbfnldjibjbkaa", sum := "05d6b7f60b683424fcfbd6f6e309f06beb2dac1bb44b3542ef7010e646263aeb", func := "loop.example/g00833/laws.FnExactIsScript", spec := "fnExactIsScript", unfollowed := true, recurses := true, apart := false }
def FnExactIsScriptSaid : Prop := fnExactIsScriptRow.holds Try.pinned (OpenSpec.ofChange fnExactIsScriptSpec)

/-- ITS FALSE NEIGHBOUR: 'it returns false'. Refute it at one input. -/
def fnExactIsScriptWrong : ChangeSpec := { name := "fnExactIsScript", fn := fun _ => fun
  | [d] => { results := [.lit (.bool false)], args := [d] }
  | _ => none }
def FnExactIsScriptWrongFalsely : Prop := fnExactIsScriptRow.holds Try.pinned (OpenSpec.ofChange fnExactIsScriptWrong)

/-- 'laws.FnExactUndoFault': WHATEVER THE INPUT: true; the input reads as it did. -/
def fnExactUndoFaultSpec : ChangeSpec := { name := "fnExactUndoFault", fn := fun _ => fun
  | [d1, d2] => { results := [.lit (.bool true)], args := [d1, d2] }
  | _ => none }
def fnExactUndoFaultRow : OpenClaim := { program := "ytdbfnldjibjbkaa", sum := "05d6b7f60b683424fcfbd6f6e309f06beb2dac1bb44b3542ef7010e646263aeb", func := "loop.example/g00833/laws.FnExactUndoFault", spec := "fnExactUndoFault", apart := false }
def FnExactUndoFaultSaid : Prop := fnExactUndoFaultRow.holds Try.pinned (OpenSpec.ofChange fnExactUndoFaultSpec)

/-- ITS FALSE NEIGHBOUR: 'it returns false'. Refute it at one input. -/
def fnExactUndoFaultWrong : ChangeSpec := { name := "fnExactUndoFault", fn := fun _ => fun
  | [d1, d2] => { results := [.lit (.bool false)], args := [d1, d2] }
  | _ => none }
def FnExactUndoFaultWrongFalsely : Prop := fnExactUndoFaultRow.holds Try.pinned (OpenSpec.ofChange fnExactUndoFaultWrong)

/-- 'laws.FnExactFlipScript': WHATEVER THE INPUT: true; the input reads as it did. -/
def fnExactFlipScriptSpec : ChangeSpec := { name := "fnExactFlipScript", fn := fun _ => fun
  | [d] => { results := [.lit (.bool true)], args := [d] }
  | _ => none }
def fnExactFlipScriptRow : OpenClaim := { program := "ytdbfnldjibjbkaa", sum := "05d6b7f60b683424fcfbd6f6e309f06beb2dac1bb44b3542ef7010e646263aeb", func := "loop.example/g00833/laws.FnExactFlipScript", spec := "fnExactFlipScript", apart := false }
def FnExactFlipScriptSaid : Prop := fnExactFlipScriptRow.holds Try.pinned (OpenSpec.ofChange fnExactFlipScriptSpec)

/-- ITS FALSE NEIGHBOUR: 'it returns false'. Refute it at one input. -/
def fnExactFlipScriptWrong : ChangeSpec := { name := "fnExactFlipScript", fn := fun _ => fun
  | [d] => { results := [.lit (.bool false)], args := [d] }
  | _ => none }
def FnExactFlipScriptWrongFalsely : Prop := fnExactFlipScriptRow.holds Try.pinned (OpenSpec.ofChange fnExactFlipScriptWrong)

/-- 'laws.FnExactCountSlips': WHATEVER THE INPUT: true; the input reads as it did. -/
def fnExactCountSlipsSpec : ChangeSpec := { name := "fnExactCountSlips", fn := fun _ => fun
  | [d] => { results := [.lit (.bool true)], args := [d] }
  | _ => none }
def fnExactCountSlipsRow : OpenClaim := { program := "ytdbfnldjibjbkaa", sum := "05d6b7f60b683424fcfbd6f6e309f06beb2dac1bb44b3542ef7010e646263aeb", func := "loop.example/g00833/laws.FnExactCountSlips", spec := "fnExactCountSlips", unfollowed := true, recurses := true, apart := false }
def FnExactCountSlipsSaid : Prop := fnExactCountSlipsRow.holds Try.pinned (OpenSpec.ofChange fnExactCountSlipsSpec)

/-- ITS FALSE NEIGHBOUR: 'it returns false'. Refute it at one input. -/
def fnExactCountSlipsWrong : ChangeSpec := { name := "fnExactCountSlips", fn := fun _ => fun
  | [d] => { results := [.lit (.bool false)], args := [d] }
  | _ => none }
def FnExactCountSlipsWrongFalsely : Prop := fnExactCountSlipsRow.holds Try.pinned (OpenSpec.ofChange fnExactCountSlipsWrong)

/-- 'laws.FnExactSameVerdict': WHATEVER THE INPUT: true; the input reads as it did. -/
def fnExactSameVerdictSpec : ChangeSpec := { name := "fnExactSameVerdict", fn := fun _ => fun
  | [d1, d2] => { results := [.lit (.bool true)], args := [d1, d2] }
  | _ => none }
def fnExactSameVerdictRow : OpenClaim := { program := "ytdbfnldjibjbkaa", sum := "05d6b7f60b683424fcfbd6f6e309f06beb2dac1bb44b3542ef7010e646263aeb", func := "loop.example/g00833/laws.FnExactSameVerdict", spec := "fnExactSameVerdict", apart := false }
def FnExactSameVerdictSaid : Prop := fnExactSameVerdictRow.holds Try.pinned (OpenSpec.ofChange fnExactSameVerdictSpec)

/-- ITS FALSE NEIGHBOUR: 'it returns false'. Refute it at one input. -/
def fnExactSameVerdictWrong : ChangeSpec := { name := "fnExactSameVerdict", fn := fun _ => fun
  | [d1, d2] => { results := [.lit (.bool false)], args := [d1, d2] }
  | _ => none }
def FnExactSameVerdictWrongFalsely : Prop := fnExactSameVerdictRow.holds Try.pinned (OpenSpec.ofChange fnExactSameVerdictWrong)

/-- 'laws.FnExactInvertCells': WHATEVER THE INPUT: true; the input reads as it did. -/
def fnExactInvertCellsSpec : ChangeSpec := { name := "fnExactInvertCells", fn := fun _ => fun
  | [d1, d2] => { results := [.lit (.bool true)], args := [d1, d2] }
  | _ => none }
def fnExactInvertCellsRow : OpenClaim := { program := "ytdbfnldjibjbkaa", sum := "05d6b7f60b683424fcfbd6f6e309f06beb2dac1bb44b3542ef7010e646263aeb", func := "loop.example/g00833/laws.FnExactInvertCells", spec := "fnExactInvertCells", apart := false }
def FnExactInvertCellsSaid : Prop := fnExactInvertCellsRow.holds Try.pinned (OpenSpec.ofChange fnExactInvertCellsSpec)

/-- ITS FALSE NEIGHBOUR: 'it returns false'. Refute it at one input. -/
def fnExactInvertCellsWrong : ChangeSpec := { name := "fnExactInvertCells", fn := fun _ => fun
  | [d1, d2] => { results := [.lit (.bool false)], args := [d1, d2] }
  | _ => none }
def FnExactInvertCellsWrongFalsely : Prop := fnExactInvertCellsRow.holds Try.pinned (OpenSpec.ofChange fnExactInvertCellsWrong)

/-- 'laws.FnExactPreambleOf': WHATEVER THE INPUT: true; the input reads as it did. -/
def fnExactPreambleOfSpec : ChangeSpec := { name := "fnExactPreambleOf", fn := fun _ => fun
  | [d] => { results := [.lit (.bool true)], args := [d] }
  | _ => none }
def fnExactPreambleOfRow : OpenClaim := { program := "ytdbfnldjibjbkaa", sum := "05d6b7f60b683424fcfbd6f6e309f06beb2dac1bb44b3542ef7010e646263aeb", func := "loop.example/g00833/laws.FnExactPreambleOf", spec := "fnExactPreambleOf", apart := false }
def FnExactPreambleOfSaid : Prop := fnExactPreambleOfRow.holds Try.pinned (OpenSpec.ofChange fnExactPreambleOfSpec)

/-- ITS FALSE NEIGHBOUR: 'it returns false'. Refute it at one input. -/
def fnExactPreambleOfWrong : ChangeSpec := { name := "fnExactPreambleOf", fn := fun _ => fun
  | [d] => { results := [.lit (.bool false)], args := [d] }
  | _ => none }
def FnExactPreambleOfWrongFalsely : Prop := fnExactPreambleOfRow.holds Try.pinned (OpenSpec.ofChange fnExactPreambleOfWrong)

/-- 'laws.FnExactJoinScripts': WHATEVER THE INPUT: true; the input reads as it did. -/
def fnExactJoinScriptsSpec : ChangeSpec := { name := "fnExactJoinScripts", fn := fun _ => fun
  | [d1, d2] => { results := [.lit (.bool true)], args := [d1, d2] }
  | _ => none }
def fnExactJoinScriptsRow : OpenClaim := { program := "ytdbfnldjibjbkaa", sum := "05d6b7f60b683424fcfbd6f6e309f06beb2dac1bb44b3542ef7010e646263aeb", func := "loop.example/g00833/laws.FnExactJoinScripts", spec := "fnExactJoinScripts", unfollowed := true, recurses := true, apart := false }
def FnExactJoinScriptsSaid : Prop := fnExactJoinScriptsRow.holds Try.pinned (OpenSpec.ofChange fnExactJoinScriptsSpec)

/-- ITS FALSE NEIGHBOUR: 'it returns false'. Refute it at one input. -/
def fnExactJoinScriptsWrong : ChangeSpec := { name := "fnExactJoinScripts", fn := fun _ => fun
  | [d1, d2] => { results := [.lit (.bool false)], args := [d1, d2] }
  | _ => none }
def FnExactJoinScriptsWrongFalsely : Prop := fnExactJoinScriptsRow.holds Try.pinned (OpenSpec.ofChange fnExactJoinScriptsWrong)

/-- 'laws.FnExactEdgesOfBytes': WHATEVER THE INPUT: true; the input reads as it did. -/
def fnExactEdgesOfBytesSpec : ChangeSpec := { name := "fnExactEdgesOfBytes", fn := fun _ => fun
  | [d] => { results := [.lit (.bool true)], args := [d] }
  | _ => none }
def fnExactEdgesOfBytesRow : OpenClaim := { program := "ytdbfnldjibjbkaa", sum := "05d6b7f60b683424fcfbd6f6e309f06beb2dac1bb44b3542ef7010e646263aeb", func := "loop.example/g00833/laws.FnExactEdgesOfBytes", spec := "fnExactEdgesOfBytes", apart := false }
def FnExactEdgesOfBytesSaid : Prop := fnExactEdgesOfBytesRow.holds Try.pinned (OpenSpec.ofChange fnExactEdgesOfBytesSpec)

/-- ITS FALSE NEIGHBOUR: 'it returns false'. Refute it at one input. -/
def fnExactEdgesOfBytesWrong : ChangeSpec := { name := "fnExactEdgesOfBytes", fn := fun _ => fun
  | [d] => { results := [.lit (.bool false)], args := [d] }
  | _ => none }
def FnExactEdgesOfBytesWrongFalsely : Prop := fnExactEdgesOfBytesRow.holds Try.pinned (OpenSpec.ofChange fnExactEdgesOfBytesWrong)

/-- 'laws.FnExactSlipsOfBytes': WHATEVER THE INPUT: true; the input reads as it did. -/
def fnExactSlipsOfBytesSpec : ChangeSpec := { name := "fnExactSlipsOfBytes", fn := fun _ => fun
  | [d] => { results := [.lit (.bool true)], args := [d] }
  | _ => none }
def fnExactSlipsOfBytesRow : OpenClaim := { program := "ytdbfnldjibjbkaa", sum := "05d6b7f60b683424fcfbd6f6e309f06beb2dac1bb44b3542ef7010e646263aeb", func := "loop.example/g00833/laws.FnExactSlipsOfBytes", spec := "fnExactSlipsOfBytes", apart := false }
def FnExactSlipsOfBytesSaid : Prop := fnExactSlipsOfBytesRow.holds Try.pinned (OpenSpec.ofChange fnExactSlipsOfBytesSpec)

/-- ITS FALSE NEIGHBOUR: 'it returns false'. Refute it at one input. -/
def fnExactSlipsOfBytesWrong : ChangeSpec := { name := "fnExactSlipsOfBytes", fn := fun _ => fun
  | [d] => { results := [.lit (.bool false)], args := [d] }
  | _ => none }
def FnExactSlipsOfBytesWrongFalsely : Prop := fnExactSlipsOfBytesRow.holds Try.pinned (OpenSpec.ofChange fnExactSlipsOfBytesWrong)

/-- 'laws.FnExactStrobesOf': WHATEVER THE INPUT: true; the input reads as it did. -/
def fnExactStrobesOfSpec : ChangeSpec := { name := "fnExactStrobesOf", fn := fun _ => fun
  | [d] => { results := [.lit (.bool true)], args := [d] }
  | _ => none }
def fnExactStrobesOfRow : OpenClaim := { program := "ytdbfnldjibjbkaa", sum := "05d6b7f60b683424fcfbd6f6e309f06beb2dac1bb44b3542ef7010e646263aeb", func := "loop.example/g00833/laws.FnExactStrobesOf", spec := "fnExactStrobesOf", apart := false }
def FnExactStrobesOfSaid : Prop := fnExactStrobesOfRow.holds Try.pinned (OpenSpec.ofChange fnExactStrobesOfSpec)

/-- ITS FALSE NEIGHBOUR: 'it returns false'. Refute it at one input. -/
def fnExactStrobesOfWrong : ChangeSpec := { name := "fnExactStrobesOf", fn := fun _ => fun
  | [d] => { results := [.lit (.bool false)], args := [d] }
  | _ => none }
def FnExactStrobesOfWrongFalsely : Prop := fnExactStrobesOfRow.holds Try.pinned (OpenSpec.ofChange fnExactStrobesOfWrong)

/-- 'laws.FnExactDecodeVoted': WHATEVER THE INPUT: true; the input reads as it did. -/
def fnExactDecodeVotedSpec : ChangeSpec := { name := "fnExactDecodeVoted", fn := fun _ => fun
  | [d] => { results := [.lit (.bool true)], args := [d] }
  | _ => none }
def fnExactDecodeVotedRow : OpenClaim := { program := "ytdbfnldjibjbkaa", sum := "05d6b7f60b683424fcfbd6f6e309f06beb2dac1bb44b3542ef7010e646263aeb", func := "loop.example/g00833/laws.FnExactDecodeVoted", spec := "fnExactDecodeVoted", apart := false }
def FnExactDecodeVotedSaid : Prop := fnExactDecodeVotedRow.holds Try.pinned (OpenSpec.ofChange fnExactDecodeVotedSpec)

/-- ITS FALSE NEIGHBOUR: 'it returns false'. Refute it at one input. -/
def fnExactDecodeVotedWrong : ChangeSpec := { name := "fnExactDecodeVoted", fn := fun _ => fun
  | [d] => { results := [.lit (.bool false)], args := [d] }
  | _ => none }
def FnExactDecodeVotedWrongFalsely : Prop := fnExactDecodeVotedRow.holds Try.pinned (OpenSpec.ofChange fnExactDecodeVotedWrong)

/-- 'laws.FnExactCellErrors': WHATEVER THE INPUT: true; the input reads as it did. -/
def fnExactCellErrorsSpec : ChangeSpec := { name := "fnExactCellErrors", fn := fun _ => fun
  | [d1, d2] => { results := [.lit (.bool true)], args := [d1, d2] }
  | _ => none }
def fnExactCellErrorsRow : OpenClaim := { program := "ytdbfnldjibjbkaa", sum := "05d6b7f60b683424fcfbd6f6e309f06beb2dac1bb44b3542ef7010e646263aeb", func := "loop.example/g00833/laws.FnExactCellErrors", spec := "fnExactCellErrors", unfollowed := true, recurses := true, apart := false }
def FnExactCellErrorsSaid : Prop := fnExactCellErrorsRow.holds Try.pinned (OpenSpec.ofChange fnExactCellErrorsSpec)

/-- ITS FALSE NEIGHBOUR: 'it returns false'. Refute it at one input. -/
def fnExactCellErrorsWrong : ChangeSpec := { name := "fnExactCellErrors", fn := fun _ => fun
  | [d1, d2] => { results := [.lit (.bool false)], args := [d1, d2] }
  | _ => none }
def FnExactCellErrorsWrongFalsely : Prop := fnExactCellErrorsRow.holds Try.pinned (OpenSpec.ofChange fnExactCellErrorsWrong)

/-- 'laws.FnExactIsVerdict': WHATEVER THE INPUT: true; the input reads as it did. -/
def fnExactIsVerdictSpec : ChangeSpec := { name := "fnExactIsVerdict", fn := fun _ => fun
  | [d] => { results := [.lit (.bool true)], args := [d] }
  | _ => none }
def fnExactIsVerdictRow : OpenClaim := { program := "ytdbfnldjibjbkaa", sum := "05d6b7f60b683424fcfbd6f6e309f06beb2dac1bb44b3542ef7010e646263aeb", func := "loop.example/g00833/laws.FnExactIsVerdict", spec := "fnExactIsVerdict", apart := false }
def FnExactIsVerdictSaid : Prop := fnExactIsVerdictRow.holds Try.pinned (OpenSpec.ofChange fnExactIsVerdictSpec)

/-- ITS FALSE NEIGHBOUR: 'it returns false'. Refute it at one input. -/
def fnExactIsVerdictWrong : ChangeSpec := { name := "fnExactIsVerdict", fn := fun _ => fun
  | [d] => { results := [.lit (.bool false)], args := [d] }
  | _ => none }
def FnExactIsVerdictWrongFalsely : Prop := fnExactIsVerdictRow.holds Try.pinned (OpenSpec.ofChange fnExactIsVerdictWrong)

/-- 'laws.FnExactDecodeSamples': WHATEVER THE INPUT: true; the input reads as it did. -/
def fnExactDecodeSamplesSpec : ChangeSpec := { name := "fnExactDecodeSamples", fn := fun _ => fun
  | [d] => { results := [.lit (.bool true)], args := [d] }
  | _ => none }
def fnExactDecodeSamplesRow : OpenClaim := { program := "ytdbfnldjibjbkaa", sum := "05d6b7f60b683424fcfbd6f6e309f06beb2dac1bb44b3542ef7010e646263aeb", func := "loop.example/g00833/laws.FnExactDecodeSamples", spec := "fnExactDecodeSamples", apart := false }
def FnExactDecodeSamplesSaid : Prop := fnExactDecodeSamplesRow.holds Try.pinned (OpenSpec.ofChange fnExactDecodeSamplesSpec)

/-- ITS FALSE NEIGHBOUR: 'it returns false'. Refute it at one input. -/
def fnExactDecodeSamplesWrong : ChangeSpec := { name := "fnExactDecodeSamples", fn := fun _ => fun
  | [d] => { results := [.lit (.bool false)], args := [d] }
  | _ => none }
def FnExactDecodeSamplesWrongFalsely : Prop := fnExactDecodeSamplesRow.holds Try.pinned (OpenSpec.ofChange fnExactDecodeSamplesWrong)

/-- 'laws.FnExactLengthAfter': WHATEVER THE INPUT: true; the input reads as it did. -/
def fnExactLengthAfterSpec : ChangeSpec := { name := "fnExactLengthAfter", fn := fun _ => fun
  | [d1, d2] => { results := [.lit (.bool true)], args := [d1, d2] }
  | _ => none }
def fnExactLengthAfterRow : OpenClaim := { program := "ytdbfnldjibjbkaa", sum := "05d6b7f60b683424fcfbd6f6e309f06beb2dac1bb44b3542ef7010e646263aeb", func := "loop.example/g00833/laws.FnExactLengthAfter", spec := "fnExactLengthAfter", inPlace := ["slices.overlaps[int64]"], unfollowed := true, recurses := true, apart := false }
def FnExactLengthAfterSaid : Prop := fnExactLengthAfterRow.holds Try.pinned (OpenSpec.ofChange fnExactLengthAfterSpec)

/-- ITS FALSE NEIGHBOUR: 'it returns false'. Refute it at one input. -/
def fnExactLengthAfterWrong : ChangeSpec := { name := "fnExactLengthAfter", fn := fun _ => fun
  | [d1, d2] => { results := [.lit (.bool false)], args := [d1, d2] }
  | _ => none }
def FnExactLengthAfterWrongFalsely : Prop := fnExactLengthAfterRow.holds Try.pinned (OpenSpec.ofChange fnExactLengthAfterWrong)

/-- 'laws.FnDecodedSamples': WHATEVER THE INPUT: true; the input reads as it did. -/
def fnDecodedSamplesSpec : ChangeSpec := { name := "fnDecodedSamples", fn := fun _ => fun
  | [d] => { results := [.lit (.bool true)], args := [d] }
  | _ => none }
def fnDecodedSamplesRow : OpenClaim := { program := "ytdbfnldjibjbkaa", sum := "05d6b7f60b683424fcfbd6f6e309f06beb2dac1bb44b3542ef7010e646263aeb", func := "loop.example/g00833/laws.FnDecodedSamples", spec := "fnDecodedSamples", apart := false }
def FnDecodedSamplesSaid : Prop := fnDecodedSamplesRow.holds Try.pinned (OpenSpec.ofChange fnDecodedSamplesSpec)

/-- ITS FALSE NEIGHBOUR: 'it returns false'. Refute it at one input. -/
def fnDecodedSamplesWrong : ChangeSpec := { name := "fnDecodedSamples", fn := fun _ => fun
  | [d] => { results := [.lit (.bool false)], args := [d] }
  | _ => none }
def FnDecodedSamplesWrongFalsely : Prop := fnDecodedSamplesRow.holds Try.pinned (OpenSpec.ofChange fnDecodedSamplesWrong)

/-- 'laws.FnVerdicts': WHATEVER THE INPUT: true; the input reads as it did. -/
def fnVerdictsSpec : ChangeSpec := { name := "fnVerdicts", fn := fun _ => fun
  | [d] => { results := [.lit (.bool true)], args := [d] }
  | _ => none }
def fnVerdictsRow : OpenClaim := { program := "ytdbfnldjibjbkaa", sum := "05d6b7f60b683424fcfbd6f6e309f06beb2dac1bb44b3542ef7010e646263aeb", func := "loop.example/g00833/laws.FnVerdicts", spec := "fnVerdicts", apart := false }
def FnVerdictsSaid : Prop := fnVerdictsRow.holds Try.pinned (OpenSpec.ofChange fnVerdictsSpec)

/-- ITS FALSE NEIGHBOUR: 'it returns false'. Refute it at one input. -/
def fnVerdictsWrong : ChangeSpec := { name := "fnVerdicts", fn := fun _ => fun
  | [d] => { results := [.lit (.bool false)], args := [d] }
  | _ => none }
def FnVerdictsWrongFalsely : Prop := fnVerdictsRow.holds Try.pinned (OpenSpec.ofChange fnVerdictsWrong)

/-- 'laws.FnExactSilenceFrom': WHATEVER THE INPUT: true; the input reads as it did. -/
def fnExactSilenceFromSpec : ChangeSpec := { name := "fnExactSilenceFrom", fn := fun _ => fun
  | [d1, d2] => { results := [.lit (.bool true)], args := [d1, d2] }
  | _ => none }
def fnExactSilenceFromRow : OpenClaim := { program := "ytdbfnldjibjbkaa", sum := "05d6b7f60b683424fcfbd6f6e309f06beb2dac1bb44b3542ef7010e646263aeb", func := "loop.example/g00833/laws.FnExactSilenceFrom", spec := "fnExactSilenceFrom", inPlace := ["slices.overlaps[int64]"], unfollowed := true, recurses := true, apart := false }
def FnExactSilenceFromSaid : Prop := fnExactSilenceFromRow.holds Try.pinned (OpenSpec.ofChange fnExactSilenceFromSpec)

/-- ITS FALSE NEIGHBOUR: 'it returns false'. Refute it at one input. -/
def fnExactSilenceFromWrong : ChangeSpec := { name := "fnExactSilenceFrom", fn := fun _ => fun
  | [d1, d2] => { results := [.lit (.bool false)], args := [d1, d2] }
  | _ => none }
def FnExactSilenceFromWrongFalsely : Prop := fnExactSilenceFromRow.holds Try.pinned (OpenSpec.ofChange fnExactSilenceFromWrong)

/-- 'laws.FnExactApplyFault': WHATEVER THE INPUT: true; the input reads as it did. -/
def fnExactApplyFaultSpec : ChangeSpec := { name := "fnExactApplyFault", fn := fun _ => fun
  | [d1, d2] => { results := [.lit (.bool true)], args := [d1, d2] }
  | _ => none }
def fnExactApplyFaultRow : OpenClaim := { program := "ytdbfnldjibjbkaa", sum := "05d6b7f60b683424fcfbd6f6e309f06beb2dac1bb44b3542ef7010e646263aeb", func := "loop.example/g00833/laws.FnExactApplyFault", spec := "fnExactApplyFault", inPlace := ["slices.overlaps[int64]"], unfollowed := true, recurses := true, apart := false }
def FnExactApplyFaultSaid : Prop := fnExactApplyFaultRow.holds Try.pinned (OpenSpec.ofChange fnExactApplyFaultSpec)

/-- ITS FALSE NEIGHBOUR: 'it returns false'. Refute it at one input. -/
def fnExactApplyFaultWrong : ChangeSpec := { name := "fnExactApplyFault", fn := fun _ => fun
  | [d1, d2] => { results := [.lit (.bool false)], args := [d1, d2] }
  | _ => none }
def FnExactApplyFaultWrongFalsely : Prop := fnExactApplyFaultRow.holds Try.pinned (OpenSpec.ofChange fnExactApplyFaultWrong)

/-- 'laws.FnExactFlipsOf': WHATEVER THE INPUT: true; the input reads as it did. -/
def fnExactFlipsOfSpec : ChangeSpec := { name := "fnExactFlipsOf", fn := fun _ => fun
  | [d] => { results := [.lit (.bool true)], args := [d] }
  | _ => none }
def fnExactFlipsOfRow : OpenClaim := { program := "ytdbfnldjibjbkaa", sum := "05d6b7f60b683424fcfbd6f6e309f06beb2dac1bb44b3542ef7010e646263aeb", func := "loop.example/g00833/laws.FnExactFlipsOf", spec := "fnExactFlipsOf", inPlace := ["slices.overlaps[int64]"], unfollowed := true, recurses := true, apart := false }
def FnExactFlipsOfSaid : Prop := fnExactFlipsOfRow.holds Try.pinned (OpenSpec.ofChange fnExactFlipsOfSpec)

/-- ITS FALSE NEIGHBOUR: 'it returns false'. Refute it at one input. -/
def fnExactFlipsOfWrong : ChangeSpec := { name := "fnExactFlipsOf", fn := fun _ => fun
  | [d] => { results := [.lit (.bool false)], args := [d] }
  | _ => none }
def FnExactFlipsOfWrongFalsely : Prop := fnExactFlipsOfRow.holds Try.pinned (OpenSpec.ofChange fnExactFlipsOfWrong)

/-- 'laws.FnCellErrors': WHATEVER THE INPUT: true; the input reads as it did. -/
def fnCellErrorsSpec : ChangeSpec := { name := "fnCellErrors", fn := fun _ => fun
  | [d] => { results := [.lit (.bool true)], args := [d] }
  | _ => none }
def fnCellErrorsRow : OpenClaim := { program := "ytdbfnldjibjbkaa", sum := "05d6b7f60b683424fcfbd6f6e309f06beb2dac1bb44b3542ef7010e646263aeb", func := "loop.example/g00833/laws.FnCellErrors", spec := "fnCellErrors", inPlace := ["slices.overlaps[int64]"], unfollowed := true, recurses := true, apart := false }
def FnCellErrorsSaid : Prop := fnCellErrorsRow.holds Try.pinned (OpenSpec.ofChange fnCellErrorsSpec)

/-- ITS FALSE NEIGHBOUR: 'it returns false'. Refute it at one input. -/
def fnCellErrorsWrong : ChangeSpec := { name := "fnCellErrors", fn := fun _ => fun
  | [d] => { results := [.lit (.bool false)], args := [d] }
  | _ => none }
def FnCellErrorsWrongFalsely : Prop := fnCellErrorsRow.holds Try.pinned (OpenSpec.ofChange fnCellErrorsWrong)

/- THE SECOND FORM. 'bulk': how many values and letters a reading holds, each counted each time it is reached (what is shared counts as often as it is met; a slice's spare places count too). A statement '..UptoSaid' is the law's where the arguments, and the package variables that the reading takes, are together of bulk at most 1048576: NARROWER than '..Said'. Prove '..Said' where nothing that the law and all that it calls make is longer than what came in: it says more and counts as full. Else prove '..UptoSaid'. A law counts once. -/
mutual
def uptoBulk {H : Type} : DataW H → Nat
  | .lit (.string bytes) => bytes.length + 1
  | .lit _ => 1
  | .nil => 1
  | .ptr d => uptoBulk d + 1
  | .slice elems spare => uptoBulkAll elems + uptoBulkAll spare + 1
  | .agg parts => uptoBulkAll parts + 1
  | .iface _ d => uptoBulk d + 1
  | .map entries => uptoBulkEntries entries + 1
  | .held _ => 1
def uptoBulkAll {H : Type} : List (DataW H) → Nat
  | [] => 0
  | d :: r => uptoBulk d + uptoBulkAll r
def uptoBulkEntries {H : Type} : List (Lit × DataW H) → Nat
  | [] => 0
  | x :: r => uptoBulkEntry x + uptoBulkEntries r
def uptoBulkEntry {H : Type} : Lit × DataW H → Nat
  | (.string bytes, d) => bytes.length + uptoBulk d + 1
  | (_, d) => uptoBulk d + 1
 end
def uptoSmall : (H : Type) → List (DataW H) → Bool := fun _ ds => decide (uptoBulkAll ds ≤ 1048576)
def OpenSpec.upto (s : _root_.Go.ChangeSpec) : _root_.Go.OpenSpec := { _root_.Go.OpenSpec.ofChange s with cond := some uptoSmall }

/-- 'laws.FnExactStatusNamed', WHERE WHAT IT READS IS OF BULK AT MOST 1048576: true; the input reads as it did. -/
def fnExactStatusNamedUptoRow : OpenClaim := { program := "ytdbfnldjibjbkaa", sum := "05d6b7f60b683424fcfbd6f6e309f06beb2dac1bb44b3542ef7010e646263aeb", func := "loop.example/g00833/laws.FnExactStatusNamed", spec := "fnExactStatusNamed", apart := false, narrowed := true }
def FnExactStatusNamedUptoSaid : Prop := fnExactStatusNamedUptoRow.holds Try.pinned (OpenSpec.upto fnExactStatusNamedSpec)

/-- 'laws.FnExactSlipPlaces', WHERE WHAT IT READS IS OF BULK AT MOST 1048576: true; the input reads as it did. -/
def fnExactSlipPlacesUptoRow : OpenClaim := { program := "ytdbfnldjibjbkaa", sum := "05d6b7f60b683424fcfbd6f6e309f06beb2dac1bb44b3542ef7010e646263aeb", func := "loop.example/g00833/laws.FnExactSlipPlaces", spec := "fnExactSlipPlaces", apart := false, narrowed := true }
def FnExactSlipPlacesUptoSaid : Prop := fnExactSlipPlacesUptoRow.holds Try.pinned (OpenSpec.upto fnExactSlipPlacesSpec)

/-- 'laws.FnExactIsScript', WHERE WHAT IT READS IS OF BULK AT MOST 1048576: true; the input reads as it did. -/
def fnExactIsScriptUptoRow : OpenClaim := { program := "ytdbfnldjibjbkaa", sum := "05d6b7f60b683424fcfbd6f6e309f06beb2dac1bb44b3542ef7010e646263aeb", func := "loop.example/g00833/laws.FnExactIsScript", spec := "fnExactIsScript", unfollowed := true, recurses := true, apart := false, narrowed := true }
def FnExactIsScriptUptoSaid : Prop := fnExactIsScriptUptoRow.holds Try.pinned (OpenSpec.upto fnExactIsScriptSpec)

/-- 'laws.FnExactUndoFault', WHERE WHAT IT READS IS OF BULK AT MOST 1048576: true; the input reads as it did. -/
def fnExactUndoFaultUptoRow : OpenClaim := { program := "ytdbfnldjibjbkaa", sum := "05d6b7f60b683424fcfbd6f6e309f06beb2dac1bb44b3542ef7010e646263aeb", func := "loop.example/g00833/laws.FnExactUndoFault", spec := "fnExactUndoFault", apart := false, narrowed := true }
def FnExactUndoFaultUptoSaid : Prop := fnExactUndoFaultUptoRow.holds Try.pinned (OpenSpec.upto fnExactUndoFaultSpec)

/-- 'laws.FnExactFlipScript', WHERE WHAT IT READS IS OF BULK AT MOST 1048576: true; the input reads as it did. -/
def fnExactFlipScriptUptoRow : OpenClaim := { program := "ytdbfnldjibjbkaa", sum := "05d6b7f60b683424fcfbd6f6e309f06beb2dac1bb44b3542ef7010e646263aeb", func := "loop.example/g00833/laws.FnExactFlipScript", spec := "fnExactFlipScript", apart := false, narrowed := true }
def FnExactFlipScriptUptoSaid : Prop := fnExactFlipScriptUptoRow.holds Try.pinned (OpenSpec.upto fnExactFlipScriptSpec)

/-- 'laws.FnExactCountSlips', WHERE WHAT IT READS IS OF BULK AT MOST 1048576: true; the input reads as it did. -/
def fnExactCountSlipsUptoRow : OpenClaim := { program := "ytdbfnldjibjbkaa", sum := "05d6b7f60b683424fcfbd6f6e309f06beb2dac1bb44b3542ef7010e646263aeb", func := "loop.example/g00833/laws.FnExactCountSlips", spec := "fnExactCountSlips", unfollowed := true, recurses := true, apart := false, narrowed := true }
def FnExactCountSlipsUptoSaid : Prop := fnExactCountSlipsUptoRow.holds Try.pinned (OpenSpec.upto fnExactCountSlipsSpec)

/-- 'laws.FnExactSameVerdict', WHERE WHAT IT READS IS OF BULK AT MOST 1048576: true; the input reads as it did. -/
def fnExactSameVerdictUptoRow : OpenClaim := { program := "ytdbfnldjibjbkaa", sum := "05d6b7f60b683424fcfbd6f6e309f06beb2dac1bb44b3542ef7010e646263aeb", func := "loop.example/g00833/laws.FnExactSameVerdict", spec := "fnExactSameVerdict", apart := false, narrowed := true }
def FnExactSameVerdictUptoSaid : Prop := fnExactSameVerdictUptoRow.holds Try.pinned (OpenSpec.upto fnExactSameVerdictSpec)

/-- 'laws.FnExactInvertCells', WHERE WHAT IT READS IS OF BULK AT MOST 1048576: true; the input reads as it did. -/
def fnExactInvertCellsUptoRow : OpenClaim := { program := "ytdbfnldjibjbkaa", sum := "05d6b7f60b683424fcfbd6f6e309f06beb2dac1bb44b3542ef7010e646263aeb", func := "loop.example/g00833/laws.FnExactInvertCells", spec := "fnExactInvertCells", apart := false, narrowed := true }
def FnExactInvertCellsUptoSaid : Prop := fnExactInvertCellsUptoRow.holds Try.pinned (OpenSpec.upto fnExactInvertCellsSpec)

/-- 'laws.FnExactPreambleOf', WHERE WHAT IT READS IS OF BULK AT MOST 1048576: true; the input reads as it did. -/
def fnExactPreambleOfUptoRow : OpenClaim := { program := "ytdbfnldjibjbkaa", sum := "05d6b7f60b683424fcfbd6f6e309f06beb2dac1bb44b3542ef7010e646263aeb", func := "loop.example/g00833/laws.FnExactPreambleOf", spec := "fnExactPreambleOf", apart := false, narrowed := true }
def FnExactPreambleOfUptoSaid : Prop := fnExactPreambleOfUptoRow.holds Try.pinned (OpenSpec.upto fnExactPreambleOfSpec)

/-- 'laws.FnExactJoinScripts', WHERE WHAT IT READS IS OF BULK AT MOST 1048576: true; the input reads as it did. -/
def fnExactJoinScriptsUptoRow : OpenClaim := { program := "ytdbfnldjibjbkaa", sum := "05d6b7f60b683424fcfbd6f6e309f06beb2dac1bb44b3542ef7010e646263aeb", func := "loop.example/g00833/laws.FnExactJoinScripts", spec := "fnExactJoinScripts", unfollowed := true, recurses := true, apart := false, narrowed := true }
def FnExactJoinScriptsUptoSaid : Prop := fnExactJoinScriptsUptoRow.holds Try.pinned (OpenSpec.upto fnExactJoinScriptsSpec)

/-- 'laws.FnExactEdgesOfBytes', WHERE WHAT IT READS IS OF BULK AT MOST 1048576: true; the input reads as it did. -/
def fnExactEdgesOfBytesUptoRow : OpenClaim := { program := "ytdbfnldjibjbkaa", sum := "05d6b7f60b683424fcfbd6f6e309f06beb2dac1bb44b3542ef7010e646263aeb", func := "loop.example/g00833/laws.FnExactEdgesOfBytes", spec := "fnExactEdgesOfBytes", apart := false, narrowed := true }
def FnExactEdgesOfBytesUptoSaid : Prop := fnExactEdgesOfBytesUptoRow.holds Try.pinned (OpenSpec.upto fnExactEdgesOfBytesSpec)

/-- 'laws.FnExactSlipsOfBytes', WHERE WHAT IT READS IS OF BULK AT MOST 1048576: true; the input reads as it did. -/
def fnExactSlipsOfBytesUptoRow : OpenClaim := { program := "ytdbfnldjibjbkaa", sum := "05d6b7f60b683424fcfbd6f6e309f06beb2dac1bb44b3542ef7010e646263aeb", func := "loop.example/g00833/laws.FnExactSlipsOfBytes", spec := "fnExactSlipsOfBytes", apart := false, narrowed := true }
def FnExactSlipsOfBytesUptoSaid : Prop := fnExactSlipsOfBytesUptoRow.holds Try.pinned (OpenSpec.upto fnExactSlipsOfBytesSpec)

/-- 'laws.FnExactStrobesOf', WHERE WHAT IT READS IS OF BULK AT MOST 1048576: true; the input reads as it did. -/
def fnExactStrobesOfUptoRow : OpenClaim := { program := "ytdbfnldjibjbkaa", sum := "05d6b7f60b683424fcfbd6f6e309f06beb2dac1bb44b3542ef7010e646263aeb", func := "loop.example/g00833/laws.FnExactStrobesOf", spec := "fnExactStrobesOf", apart := false, narrowed := true }
def FnExactStrobesOfUptoSaid : Prop := fnExactStrobesOfUptoRow.holds Try.pinned (OpenSpec.upto fnExactStrobesOfSpec)

/-- 'laws.FnExactDecodeVoted', WHERE WHAT IT READS IS OF BULK AT MOST 1048576: true; the input reads as it did. -/
def fnExactDecodeVotedUptoRow : OpenClaim := { program := "ytdbfnldjibjbkaa", sum := "05d6b7f60b683424fcfbd6f6e309f06beb2dac1bb44b3542ef7010e646263aeb", func := "loop.example/g00833/laws.FnExactDecodeVoted", spec := "fnExactDecodeVoted", apart := false, narrowed := true }
def FnExactDecodeVotedUptoSaid : Prop := fnExactDecodeVotedUptoRow.holds Try.pinned (OpenSpec.upto fnExactDecodeVotedSpec)

/-- 'laws.FnExactCellErrors', WHERE WHAT IT READS IS OF BULK AT MOST 1048576: true; the input reads as it did. -/
def fnExactCellErrorsUptoRow : OpenClaim := { program := "ytdbfnldjibjbkaa", sum := "05d6b7f60b683424fcfbd6f6e309f06beb2dac1bb44b3542ef7010e646263aeb", func := "loop.example/g00833/laws.FnExactCellErrors", spec := "fnExactCellErrors", unfollowed := true, recurses := true, apart := false, narrowed := true }
def FnExactCellErrorsUptoSaid : Prop := fnExactCellErrorsUptoRow.holds Try.pinned (OpenSpec.upto fnExactCellErrorsSpec)

/-- 'laws.FnExactIsVerdict', WHERE WHAT IT READS IS OF BULK AT MOST 1048576: true; the input reads as it did. -/
def fnExactIsVerdictUptoRow : OpenClaim := { program := "ytdbfnldjibjbkaa", sum := "05d6b7f60b683424fcfbd6f6e309f06beb2dac1bb44b3542ef7010e646263aeb", func := "loop.example/g00833/laws.FnExactIsVerdict", spec := "fnExactIsVerdict", apart := false, narrowed := true }
def FnExactIsVerdictUptoSaid : Prop := fnExactIsVerdictUptoRow.holds Try.pinned (OpenSpec.upto fnExactIsVerdictSpec)

/-- 'laws.FnExactDecodeSamples', WHERE WHAT IT READS IS OF BULK AT MOST 1048576: true; the input reads as it did. -/
def fnExactDecodeSamplesUptoRow : OpenClaim := { program := "ytdbfnldjibjbkaa", sum := "05d6b7f60b683424fcfbd6f6e309f06beb2dac1bb44b3542ef7010e646263aeb", func := "loop.example/g00833/laws.FnExactDecodeSamples", spec := "fnExactDecodeSamples", apart := false, narrowed := true }
def FnExactDecodeSamplesUptoSaid : Prop := fnExactDecodeSamplesUptoRow.holds Try.pinned (OpenSpec.upto fnExactDecodeSamplesSpec)

/-- 'laws.FnExactLengthAfter', WHERE WHAT IT READS IS OF BULK AT MOST 1048576: true; the input reads as it did. -/
def fnExactLengthAfterUptoRow : OpenClaim := { program := "ytdbfnldjibjbkaa", sum := "05d6b7f60b683424fcfbd6f6e309f06beb2dac1bb44b3542ef7010e646263aeb", func := "loop.example/g00833/laws.FnExactLengthAfter", spec := "fnExactLengthAfter", inPlace := ["slices.overlaps[int64]"], unfollowed := true, recurses := true, apart := false, narrowed := true }
def FnExactLengthAfterUptoSaid : Prop := fnExactLengthAfterUptoRow.holds Try.pinned (OpenSpec.upto fnExactLengthAfterSpec)

/-- 'laws.FnDecodedSamples', WHERE WHAT IT READS IS OF BULK AT MOST 1048576: true; the input reads as it did. -/
def fnDecodedSamplesUptoRow : OpenClaim := { program := "ytdbfnldjibjbkaa", sum := "05d6b7f60b683424fcfbd6f6e309f06beb2dac1bb44b3542ef7010e646263aeb", func := "loop.example/g00833/laws.FnDecodedSamples", spec := "fnDecodedSamples", apart := false, narrowed := true }
def FnDecodedSamplesUptoSaid : Prop := fnDecodedSamplesUptoRow.holds Try.pinned (OpenSpec.upto fnDecodedSamplesSpec)

/-- 'laws.FnVerdicts', WHERE WHAT IT READS IS OF BULK AT MOST 1048576: true; the input reads as it did. -/
def fnVerdictsUptoRow : OpenClaim := { program := "ytdbfnldjibjbkaa", sum := "05d6b7f60b683424fcfbd6f6e309f06beb2dac1bb44b3542ef7010e646263aeb", func := "loop.example/g00833/laws.FnVerdicts", spec := "fnVerdicts", apart := false, narrowed := true }
def FnVerdictsUptoSaid : Prop := fnVerdictsUptoRow.holds Try.pinned (OpenSpec.upto fnVerdictsSpec)

/-- 'laws.FnExactSilenceFrom', WHERE WHAT IT READS IS OF BULK AT MOST 1048576: true; the input reads as it did. -/
def fnExactSilenceFromUptoRow : OpenClaim := { program := "ytdbfnldjibjbkaa", sum := "05d6b7f60b683424fcfbd6f6e309f06beb2dac1bb44b3542ef7010e646263aeb", func := "loop.example/g00833/laws.FnExactSilenceFrom", spec := "fnExactSilenceFrom", inPlace := ["slices.overlaps[int64]"], unfollowed := true, recurses := true, apart := false, narrowed := true }
def FnExactSilenceFromUptoSaid : Prop := fnExactSilenceFromUptoRow.holds Try.pinned (OpenSpec.upto fnExactSilenceFromSpec)

/-- 'laws.FnExactApplyFault', WHERE WHAT IT READS IS OF BULK AT MOST 1048576: true; the input reads as it did. -/
def fnExactApplyFaultUptoRow : OpenClaim := { program := "ytdbfnldjibjbkaa", sum := "05d6b7f60b683424fcfbd6f6e309f06beb2dac1bb44b3542ef7010e646263aeb", func := "loop.example/g00833/laws.FnExactApplyFault", spec := "fnExactApplyFault", inPlace := ["slices.overlaps[int64]"], unfollowed := true, recurses := true, apart := false, narrowed := true }
def FnExactApplyFaultUptoSaid : Prop := fnExactApplyFaultUptoRow.holds Try.pinned (OpenSpec.upto fnExactApplyFaultSpec)

/-- 'laws.FnExactFlipsOf', WHERE WHAT IT READS IS OF BULK AT MOST 1048576: true; the input reads as it did. -/
def fnExactFlipsOfUptoRow : OpenClaim := { program := "ytdbfnldjibjbkaa", sum := "05d6b7f60b683424fcfbd6f6e309f06beb2dac1bb44b3542ef7010e646263aeb", func := "loop.example/g00833/laws.FnExactFlipsOf", spec := "fnExactFlipsOf", inPlace := ["slices.overlaps[int64]"], unfollowed := true, recurses := true, apart := false, narrowed := true }
def FnExactFlipsOfUptoSaid : Prop := fnExactFlipsOfUptoRow.holds Try.pinned (OpenSpec.upto fnExactFlipsOfSpec)

/-- 'laws.FnCellErrors', WHERE WHAT IT READS IS OF BULK AT MOST 1048576: true; the input reads as it did. -/
def fnCellErrorsUptoRow : OpenClaim := { program := "ytdbfnldjibjbkaa", sum := "05d6b7f60b683424fcfbd6f6e309f06beb2dac1bb44b3542ef7010e646263aeb", func := "loop.example/g00833/laws.FnCellErrors", spec := "fnCellErrors", inPlace := ["slices.overlaps[int64]"], unfollowed := true, recurses := true, apart := false, narrowed := true }
def FnCellErrorsUptoSaid : Prop := fnCellErrorsUptoRow.holds Try.pinned (OpenSpec.upto fnCellErrorsSpec)

end Rows
end Go.Proofs.Ytdbfnldjibjbkaa
