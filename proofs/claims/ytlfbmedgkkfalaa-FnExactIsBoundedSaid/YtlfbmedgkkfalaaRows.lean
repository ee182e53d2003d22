/-
  No cell of these rows narrows 'for every input' (looked for: loops, veiled, ifaces, maps, wideKeys, modest, calm, conditions, laid).
  DERIVED. THE GIVEN ROWS OF THIS SEAT. 21 by the template 'for every input the law returns true; each argument reads behind the call as it read before'; 0 by the template 'total and deterministic' (their statements: YtlfbmedgkkfalaaTotals.lean).
  GIVEN WITH THE SEED: the statements are not yours to turn. If you find one false, say at which input.
  Laid BY PROGRAM, IN A SANDBOX (cutbox-rows.mjs): the forced cells as the released guide's own fill.sh prints them over the translation f798ff28c36197fc… (all of the seat's roots in one cut). By AI agents, Wed Nov 11 2026. No macro, syntax, notation, axiom, sorry.
-/
import Derived.Test.YtlfbmedgkkfalaaChecked
import GoSem.Claim
import GoSem.ClaimJoined
import GoSem.ClaimMapViews
import Derived.JoinedTies
import Derived.KernelRfl
namespace Go.Proofs.Ytlfbmedgkkfalaa
/- THE CELL 'sum', in the pinned program and in every row, IS THE sha256 OF THE DUMP (.gsa) THAT YtlfbmedgkkfalaaProg.lean LOADS. Nothing in Lean hashes anything: it is a label: what it is worth is what the hold of that sum in a sandbox is worth. -/
noncomputable def Try.pinned : Pinned := { name := "ytlfbmedgkkfalaa", sum := "f798ff28c36197fc4dbc36e6020bf14f5f457839af3134521f3f284f6a7c7636", checked := Try.checked }
namespace Rows
def none {H : Type} : Left H := { results := [], args := [] }

/-- 'laws.FnExactSameVerdict': WHATEVER THE INPUT: true; the input reads as it did. -/
def fnExactSameVerdictSpec : ChangeSpec := { name := "fnExactSameVerdict", fn := fun _ => fun
  | [d1, d2] => { results := [.lit (.bool true)], args := [d1, d2] }
  | _ => none }
def fnExactSameVerdictRow : OpenClaim := { program := "ytlfbmedgkkfalaa", sum := "f798ff28c36197fc4dbc36e6020bf14f5f457839af3134521f3f284f6a7c7636", func := "loop.example/g00833/laws.FnExactSameVerdict", spec := "fnExactSameVerdict", apart := false }
def FnExactSameVerdictSaid : Prop := fnExactSameVerdictRow.holds Try.pinned (OpenSpec.ofChange fnExactSameVerdictSpec)

/-- ITS FALSE NEIGHBOUR: 'it returns false'. Refute it at one input. -/
def fnExactSameVerdictWrong : ChangeSpec := { name := "fnExactSameVerdict", fn := fun _ => fun
  | [d1, d2] => { results := [.lit (.bool false)], args := [d1, d2] }
  | _ => none }
def FnExactSameVerdictWrongFalsely : Prop := fnExactSameVerdictRow.holds Try.pinned (OpenSpec.ofChange fnExactSameVerdictWrong)

/-- 'laws.FnExactJoinScripts': WHATEVER THE INPUT: true; the input reads as it did. -/
def fnExactJoinScriptsSpec : ChangeSpec := { name := "fnExactJoinScripts", fn := fun _ => fun
  | [d1, d2] => { results := [.lit (.bool true)], args := [d1, d2] }
  | _ => none }
def fnExactJoinScriptsRow : OpenClaim := { program := "ytlfbmedgkkfalaa", sum := "f798ff28c36197fc4dbc36e6020bf14f5f457839af3134521f3f284f6a7c7636", func := "loop.example/g00833/laws.FnExactJoinScripts", spec := "fnExactJoinScripts", unfollowed := true, recurses := true, apart := false }
def FnExactJoinScriptsSaid : Prop := fnExactJoinScriptsRow.holds Try.pinned (OpenSpec.ofChange fnExactJoinScriptsSpec)

/-- ITS FALSE NEIGHBOUR: 'it returns false'. Refute it at one input. -/
def fnExactJoinScriptsWrong : ChangeSpec := { name := "fnExactJoinScripts", fn := fun _ => fun
  | [d1, d2] => { results := [.lit (.bool false)], args := [d1, d2] }
  | _ => none }
def FnExactJoinScriptsWrongFalsely : Prop := fnExactJoinScriptsRow.holds Try.pinned (OpenSpec.ofChange fnExactJoinScriptsWrong)

/-- 'laws.FnExactIsVerdict': WHATEVER THE INPUT: true; the input reads as it did. -/
def fnExactIsVerdictSpec : ChangeSpec := { name := "fnExactIsVerdict", fn := fun _ => fun
  | [d] => { results := [.lit (.bool true)], args := [d] }
  | _ => none }
def fnExactIsVerdictRow : OpenClaim := { program := "ytlfbmedgkkfalaa", sum := "f798ff28c36197fc4dbc36e6020bf14f5f457839af3134521f3f284f6a7c7636", func := "loop.example/g00833/laws.FnExactIsVerdict", spec := "fnExactIsVerdict", apart := false }
def FnExactIsVerdictSaid : Prop := fnExactIsVerdictRow.holds Try.pinned (OpenSpec.ofChange fnExactIsVerdictSpec)

/-- ITS FALSE NEIGHBOUR: 'it returns false'. Refute it at one input. -/
def fnExactIsVerdictWrong : ChangeSpec := { name := "fnExactIsVerdict", fn := fun _ => fun
  | [d] => { results := [.lit (.bool false)], args := [d] }
  | _ => none }
def FnExactIsVerdictWrongFalsely : Prop := fnExactIsVerdictRow.holds Try.pinned (OpenSpec.ofChange fnExactIsVerdictWrong)

/-- 'laws.FnExactLengthAfter': WHATEVER THE INPUT: true; the input reads as it did. -/
def fnExactLengthAfterSpec : ChangeSpec := { name := "fnExactLengthAfter", fn := fun _ => fun
  | [d1, d2] => { results := [.lit (.bool true)], args := [d1, d2] }
  | _ => none }
def fnExactLengthAfterRow : OpenClaim := { program := "ytlfbmedgkkfalaa", sum := "f798ff28c36197fc4dbc36e6020bf14f5f457839af3134521f3f284f6a7c7636", func := "loop.example/g00833/laws.FnExactLengthAfter", spec := "fnExactLengthAfter", inPlace := ["slices.overlaps[int64]"], unfollowed := true, recurses := true, apart := false }
def FnExactLengthAfterSaid : Prop := fnExactLengthAfterRow.holds Try.pinned (OpenSpec.ofChange fnExactLengthAfterSpec)

/-- ITS FALSE NEIGHBOUR: 'it returns false'. Refute it at one input. -/
def fnExactLengthAfterWrong : ChangeSpec := { name := "fnExactLengthAfter", fn := fun _ => fun
  | [d1, d2] => { results := [.lit (.bool false)], args := [d1, d2] }
  | _ => none }
def FnExactLengthAfterWrongFalsely : Prop := fnExactLengthAfterRow.holds Try.pinned (OpenSpec.ofChange fnExactLengthAfterWrong)

/-- 'laws.FnDecodedSamples': WHATEVER THE INPUT: true; the input reads as it did. -/
def fnDecodedSamplesSpec : ChangeSpec := { name := "fnDecodedSamples", fn := fun _ => fun
  | [d] => { results := [.lit (.bool true)], args := [d] }
  | _ => none }
def fnDecodedSamplesRow : OpenClaim := { program := "ytlfbmedgkkfalaa", sum := "f798ff28c36197fc4dbc36e6020bf14f5f457839af3134521f3f284f6a7c7636", func := "loop.example/g00833/laws.FnDecodedSamples", spec := "fnDecodedSamples", apart := false }
def FnDecodedSamplesSaid : Prop := fnDecodedSamplesRow.holds Try.pinned (OpenSpec.ofChange fnDecodedSamplesSpec)

/-- ITS FALSE NEIGHBOUR: 'it returns false'. Refute it at one input. -/
def fnDecodedSamplesWrong : ChangeSpec := { name := "fnDecodedSamples", fn := fun _ => fun
  | [d] => { results := [.lit (.bool false)], args := [d] }
  | _ => none }
def FnDecodedSamplesWrongFalsely : Prop := fnDecodedSamplesRow.holds Try.pinned (OpenSpec.ofChange fnDecodedSamplesWrong)

/-- 'laws.FnVerdicts': WHATEVER THE INPUT: true; the input reads as it did. -/
def fnVerdictsSpec : ChangeSpec := { name := "fnVerdicts", fn := fun _ => fun
  | [d] => { results := [.lit (.bool true)], args := [d] }
  | _ => none }
def fnVerdictsRow : OpenClaim := { program := "ytlfbmedgkkfalaa", sum := "f798ff28c36197fc4dbc36e6020bf14f5f457839af3134521f3f284f6a7c7636", func := "loop.example/g00833/laws.FnVerdicts", spec := "fnVerdicts", apart := false }
def FnVerdictsSaid : Prop := fnVerdictsRow.holds Try.pinned (OpenSpec.ofChange fnVerdictsSpec)

/-- ITS FALSE NEIGHBOUR: 'it returns false'. Refute it at one input. -/
def fnVerdictsWrong : ChangeSpec := { name := "fnVerdicts", fn := fun _ => fun
  | [d] => { results := [.lit (.bool false)], args := [d] }
  | _ => none }
def FnVerdictsWrongFalsely : Prop := fnVerdictsRow.holds Try.pinned (OpenSpec.ofChange fnVerdictsWrong)

/-- 'laws.FnExactApplyFault': WHATEVER THE INPUT: true; the input reads as it did. -/
def fnExactApplyFaultSpec : ChangeSpec := { name := "fnExactApplyFault", fn := fun _ => fun
  | [d1, d2] => { results := [.lit (.bool true)], args := [d1, d2] }
  | _ => none }
def fnExactApplyFaultRow : OpenClaim := { program := "ytlfbmedgkkfalaa", sum := "f798ff28c36197fc4dbc36e6020bf14f5f457839af3134521f3f284f6a7c7636", func := "loop.example/g00833/laws.FnExactApplyFault", spec := "fnExactApplyFault", inPlace := ["slices.overlaps[int64]"], unfollowed := true, recurses := true, apart := false }
def FnExactApplyFaultSaid : Prop := fnExactApplyFaultRow.holds Try.pinned (OpenSpec.ofChange fnExactApplyFaultSpec)

/-- ITS FALSE NEIGHBOUR: 'it returns false'. Refute it at one input. -/
def fnExactApplyFaultWrong : ChangeSpec := { name := "fnExactApplyFault", fn := fun _ => fun
  | [d1, d2] => { results := [.lit (.bool false)], args := [d1, d2] }
  | _ => none }
def FnExactApplyFaultWrongFalsely : Prop := fnExactApplyFaultRow.holds Try.pinned (OpenSpec.ofChange fnExactApplyFaultWrong)

/-- 'laws.FnExactFlipsOf': WHATEVER THE INPUT: true; the input reads as it did. -/
def fnExactFlipsOfSpec : ChangeSpec := { name := "fnExactFlipsOf", fn := fun _ => fun
  | [d] => { results := [.lit (.bool true)], args := [d] }
  | _ => none }
def fnExactFlipsOfRow : OpenClaim := { program := "ytlfbmedgkkfalaa", sum := "f798ff28c36197fc4dbc36e6020bf14f5f457839af3134521f3f284f6a7c7636", func := "loop.example/g00833/laws.FnExactFlipsOf", spec := "fnExactFlipsOf", inPlace := ["slices.overlaps[int64]"], unfollowed := true, recurses := true, apart := false }
def FnExactFlipsOfSaid : Prop := fnExactFlipsOfRow.holds Try.pinned (OpenSpec.ofChange fnExactFlipsOfSpec)

/-- ITS FALSE NEIGHBOUR: 'it returns false'. Refute it at one input. -/
def fnExactFlipsOfWrong : ChangeSpec := { name := "fnExactFlipsOf", fn := fun _ => fun
  | [d] => { results := [.lit (.bool false)], args := [d] }
  | _ => none }
def FnExactFlipsOfWrongFalsely : Prop := fnExactFlipsOfRow.holds Try.pinned (OpenSpec.ofChange fnExactFlipsOfWrong)

/-- 'laws.FnCellErrors': WHATEVER THE INPUT: true; the input reads as it did. -/
def fnCellErrorsSpec : ChangeSpec := { name := "fnCellErrors", fn := fun _ => fun
  | [d] => { results := [.lit (.bool true)], args := [d] }
  | _ => none }
def fnCellErrorsRow : OpenClaim := { program := "ytlfbmedgkkfalaa", sum := "f798ff28c36197fc4dbc36e6020bf14f5f457839af3134521f3f284f6a7c7636", func := "loop.example/g00833/laws.FnCellErrors", spec := "fnCellErrors", inPlace := ["slices.overlaps[int64]"], unfollowed := true, recurses := true, apart := false }
def FnCellErrorsSaid : Prop := fnCellErrorsRow.holds Try.pinned (OpenSpec.ofChange fnCellErrorsSpec)

/-- ITS FALSE NEIGHBOUR: 'it returns false'. Refute it at one input. -/
def fnCellErrorsWrong : ChangeSpec := { name := "fnCellErrors", fn := fun _ => fun
  | [d] => { results := [.lit (.bool false)], args := [d] }
  | _ => none }
def FnCellErrorsWrongFalsely : Prop := fnCellErrorsRow.holds Try.pinned (OpenSpec.ofChange fnCellErrorsWrong)

/-- 'laws.FnExactApplyScript': WHATEVER THE INPUT: true; the input reads as it did. -/
def fnExactApplyScriptSpec : ChangeSpec := { name := "fnExactApplyScript", fn := fun _ => fun
  | [d1, d2] => { results := [.lit (.bool true)], args := [d1, d2] }
  | _ => none }
def fnExactApplyScriptRow : OpenClaim := { program := "ytlfbmedgkkfalaa", sum := "f798ff28c36197fc4dbc36e6020bf14f5f457839af3134521f3f284f6a7c7636", func := "loop.example/g00833/laws.FnExactApplyScript", spec := "fnExactApplyScript", inPlace := ["slices.overlaps[int64]"], unfollowed := true, recurses := true, apart := false }
def FnExactApplyScriptSaid : Prop := fnExactApplyScriptRow.holds Try.pinned (OpenSpec.ofChange fnExactApplyScriptSpec)

/-- ITS FALSE NEIGHBOUR: 'it returns false'. Refute it at one input. -/
def fnExactApplyScriptWrong : ChangeSpec := { name := "fnExactApplyScript", fn := fun _ => fun
  | [d1, d2] => { results := [.lit (.bool false)], args := [d1, d2] }
  | _ => none }
def FnExactApplyScriptWrongFalsely : Prop := fnExactApplyScriptRow.holds Try.pinned (OpenSpec.ofChange fnExactApplyScriptWrong)

/-- 'laws.FnExactIsBounded': WHATEVER THE INPUT: true; the input reads as it did. -/
def fnExactIsBoundedSpec : ChangeSpec := { name := "fnExactIsBounded", fn := fun _ => fun
  | [d1, d2] => { results := [.lit (.bool true)], args := [d1, d2] }
  | _ => none }
def fnExactIsBoundedRow : OpenClaim := { program := "ytlfbmedgkkfalaa", sum := "f798ff28c36197fc4dbc36e6020bf14f5f457839af3134521f3f284f6a7c7636", func := "loop.example/g00833/laws.FnExactIsBounded", spec := "fnExactIsBounded", inPlace := ["slices.overlaps[int64]"], unfollowed := true, recurses := true, apart := false }
def FnExactIsBoundedSaid : Prop := fnExactIsBoundedRow.holds Try.pinned (OpenSpec.ofChange fnExactIsBoundedSpec)

/-- ITS FALSE NEIGHBOUR: 'it returns false'. Refute it at one input. -/
def fnExactIsBoundedWrong : ChangeSpec := { name := "fnExactIsBounded", fn := fun _ => fun
  | [d1, d2] => { results := [.lit (.bool false)], args := [d1, d2] }
  | _ => none }
def FnExactIsBoundedWrongFalsely : Prop := fnExactIsBoundedRow.holds Try.pinned (OpenSpec.ofChange fnExactIsBoundedWrong)

/-- 'laws.FnExactBoundOf': WHATEVER THE INPUT: true; the input reads as it did. -/
def fnExactBoundOfSpec : ChangeSpec := { name := "fnExactBoundOf", fn := fun _ => fun
  | [d1, d2] => { results := [.lit (.bool true)], args := [d1, d2] }
  | _ => none }
def fnExactBoundOfRow : OpenClaim := { program := "ytlfbmedgkkfalaa", sum := "f798ff28c36197fc4dbc36e6020bf14f5f457839af3134521f3f284f6a7c7636", func := "loop.example/g00833/laws.FnExactBoundOf", spec := "fnExactBoundOf", inPlace := ["slices.overlaps[int64]"], unfollowed := true, recurses := true, apart := false }
def FnExactBoundOfSaid : Prop := fnExactBoundOfRow.holds Try.pinned (OpenSpec.ofChange fnExactBoundOfSpec)

/-- ITS FALSE NEIGHBOUR: 'it returns false'. Refute it at one input. -/
def fnExactBoundOfWrong : ChangeSpec := { name := "fnExactBoundOf", fn := fun _ => fun
  | [d1, d2] => { results := [.lit (.bool false)], args := [d1, d2] }
  | _ => none }
def FnExactBoundOfWrongFalsely : Prop := fnExactBoundOfRow.holds Try.pinned (OpenSpec.ofChange fnExactBoundOfWrong)

/-- 'laws.FnSilences': WHATEVER THE INPUT: true; the input reads as it did. -/
def fnSilencesSpec : ChangeSpec := { name := "fnSilences", fn := fun _ => fun
  | [d] => { results := [.lit (.bool true)], args := [d] }
  | _ => none }
def fnSilencesRow : OpenClaim := { program := "ytlfbmedgkkfalaa", sum := "f798ff28c36197fc4dbc36e6020bf14f5f457839af3134521f3f284f6a7c7636", func := "loop.example/g00833/laws.FnSilences", spec := "fnSilences", inPlace := ["slices.overlaps[int64]"], unfollowed := true, recurses := true, apart := false }
def FnSilencesSaid : Prop := fnSilencesRow.holds Try.pinned (OpenSpec.ofChange fnSilencesSpec)

/-- ITS FALSE NEIGHBOUR: 'it returns false'. Refute it at one input. -/
def fnSilencesWrong : ChangeSpec := { name := "fnSilences", fn := fun _ => fun
  | [d] => { results := [.lit (.bool false)], args := [d] }
  | _ => none }
def FnSilencesWrongFalsely : Prop := fnSilencesRow.holds Try.pinned (OpenSpec.ofChange fnSilencesWrong)

/-- 'laws.FnScripts': WHATEVER THE INPUT: true; the input reads as it did. -/
def fnScriptsSpec : ChangeSpec := { name := "fnScripts", fn := fun _ => fun
  | [d] => { results := [.lit (.bool true)], args := [d] }
  | _ => none }
def fnScriptsRow : OpenClaim := { program := "ytlfbmedgkkfalaa", sum := "f798ff28c36197fc4dbc36e6020bf14f5f457839af3134521f3f284f6a7c7636", func := "loop.example/g00833/laws.FnScripts", spec := "fnScripts", inPlace := ["slices.overlaps[int64]"], unfollowed := true, recurses := true, apart := false }
def FnScriptsSaid : Prop := fnScriptsRow.holds Try.pinned (OpenSpec.ofChange fnScriptsSpec)

/-- ITS FALSE NEIGHBOUR: 'it returns false'. Refute it at one input. -/
def fnScriptsWrong : ChangeSpec := { name := "fnScripts", fn := fun _ => fun
  | [d] => { results := [.lit (.bool false)], args := [d] }
  | _ => none }
def FnScriptsWrongFalsely : Prop := fnScriptsRow.holds Try.pinned (OpenSpec.ofChange fnScriptsWrong)

/-- 'laws.FnFlipScripts': WHATEVER THE INPUT: true; the input reads as it did. -/
def fnFlipScriptsSpec : ChangeSpec := { name := "fnFlipScripts", fn := fun _ => fun
  | [d] => { results := [.lit (.bool true)], args := [d] }
  | _ => none }
def fnFlipScriptsRow : OpenClaim := { program := "ytlfbmedgkkfalaa", sum := "f798ff28c36197fc4dbc36e6020bf14f5f457839af3134521f3f284f6a7c7636", func := "loop.example/g00833/laws.FnFlipScripts", spec := "fnFlipScripts", inPlace := ["slices.overlaps[int64]"], unfollowed := true, recurses := true, apart := false }
def FnFlipScriptsSaid : Prop := fnFlipScriptsRow.holds Try.pinned (OpenSpec.ofChange fnFlipScriptsSpec)

/-- ITS FALSE NEIGHBOUR: 'it returns false'. Refute it at one input. -/
def fnFlipScriptsWrong : ChangeSpec := { name := "fnFlipScripts", fn := fun _ => fun
  | [d] => { results := [.lit (.bool false)], args := [d] }
  | _ => none }
def FnFlipScriptsWrongFalsely : Prop := fnFlipScriptsRow.holds Try.pinned (OpenSpec.ofChange fnFlipScriptsWrong)

/-- 'laws.FnDecoder': WHATEVER THE INPUT: true; the input reads as it did. -/
def fnDecoderSpec : ChangeSpec := { name := "fnDecoder", fn := fun _ => fun
  | [d] => { results := [.lit (.bool true)], args := [d] }
  | _ => none }
def fnDecoderRow : OpenClaim := { program := "ytlfbmedgkkfalaa", sum := "f798ff28c36197fc4dbc36e6020bf14f5f457839af3134521f3f284f6a7c7636", func := "loop.example/g00833/laws.FnDecoder", spec := "fnDecoder", apart := false }
def FnDecoderSaid : Prop := fnDecoderRow.holds Try.pinned (OpenSpec.ofChange fnDecoderSpec)

/-- ITS FALSE NEIGHBOUR: 'it returns false'. Refute it at one input. -/
def fnDecoderWrong : ChangeSpec := { name := "fnDecoder", fn := fun _ => fun
  | [d] => { results := [.lit (.bool false)], args := [d] }
  | _ => none }
def FnDecoderWrongFalsely : Prop := fnDecoderRow.holds Try.pinned (OpenSpec.ofChange fnDecoderWrong)

/-- 'laws.FnStrobes': WHATEVER THE INPUT: true; the input reads as it did. -/
def fnStrobesSpec : ChangeSpec := { name := "fnStrobes", fn := fun _ => fun
  | [d] => { results := [.lit (.bool true)], args := [d] }
  | _ => none }
def fnStrobesRow : OpenClaim := { program := "ytlfbmedgkkfalaa", sum := "f798ff28c36197fc4dbc36e6020bf14f5f457839af3134521f3f284f6a7c7636", func := "loop.example/g00833/laws.FnStrobes", spec := "fnStrobes", apart := false }
def FnStrobesSaid : Prop := fnStrobesRow.holds Try.pinned (OpenSpec.ofChange fnStrobesSpec)

/-- ITS FALSE NEIGHBOUR: 'it returns false'. Refute it at one input. -/
def fnStrobesWrong : ChangeSpec := { name := "fnStrobes", fn := fun _ => fun
  | [d] => { results := [.lit (.bool false)], args := [d] }
  | _ => none }
def FnStrobesWrongFalsely : Prop := fnStrobesRow.holds Try.pinned (OpenSpec.ofChange fnStrobesWrong)

/-- 'laws.FnSlips': WHATEVER THE INPUT: true; the input reads as it did. -/
def fnSlipsSpec : ChangeSpec := { name := "fnSlips", fn := fun _ => fun
  | [d] => { results := [.lit (.bool true)], args := [d] }
  | _ => none }
def fnSlipsRow : OpenClaim := { program := "ytlfbmedgkkfalaa", sum := "f798ff28c36197fc4dbc36e6020bf14f5f457839af3134521f3f284f6a7c7636", func := "loop.example/g00833/laws.FnSlips", spec := "fnSlips", inPlace := ["slices.overlaps[int64]"], unfollowed := true, recurses := true, apart := false }
def FnSlipsSaid : Prop := fnSlipsRow.holds Try.pinned (OpenSpec.ofChange fnSlipsSpec)

/-- ITS FALSE NEIGHBOUR: 'it returns false'. Refute it at one input. -/
def fnSlipsWrong : ChangeSpec := { name := "fnSlips", fn := fun _ => fun
  | [d] => { results := [.lit (.bool false)], args := [d] }
  | _ => none }
def FnSlipsWrongFalsely : Prop := fnSlipsRow.holds Try.pinned (OpenSpec.ofChange fnSlipsWrong)

/-- 'laws.FnNominal': WHATEVER THE INPUT: true; the input reads as it did. -/
def fnNominalSpec : ChangeSpec := { name := "fnNominal", fn := fun _ => fun
  | [d] => { results := [.lit (.bool true)], args := [d] }
  | _ => none }
def fnNominalRow : OpenClaim := { program := "ytlfbmedgkkfalaa", sum := "f798ff28c36197fc4dbc36e6020bf14f5f457839af3134521f3f284f6a7c7636", func := "loop.example/g00833/laws.FnNominal", spec := "fnNominal", recurses := true, apart := false }
def FnNominalSaid : Prop := fnNominalRow.holds Try.pinned (OpenSpec.ofChange fnNominalSpec)

/-- ITS FALSE NEIGHBOUR: 'it returns false'. Refute it at one input. -/
def fnNominalWrong : ChangeSpec := { name := "fnNominal", fn := fun _ => fun
  | [d] => { results := [.lit (.bool false)], args := [d] }
  | _ => none }
def FnNominalWrongFalsely : Prop := fnNominalRow.holds Try.pinned (OpenSpec.ofChange fnNominalWrong)

/-- 'laws.FnDrifts': WHATEVER THE INPUT: true; the input reads as it did. -/
def fnDriftsSpec : ChangeSpec := { name := "fnDrifts", fn := fun _ => fun
  | [d] => { results := [.lit (.bool true)], args := [d] }
  | _ => none }
def fnDriftsRow : OpenClaim := { program := "ytlfbmedgkkfalaa", sum := "f798ff28c36197fc4dbc36e6020bf14f5f457839af3134521f3f284f6a7c7636", func := "loop.example/g00833/laws.FnDrifts", spec := "fnDrifts", recurses := true, apart := false }
def FnDriftsSaid : Prop := fnDriftsRow.holds Try.pinned (OpenSpec.ofChange fnDriftsSpec)

/-- ITS FALSE NEIGHBOUR: 'it returns false'. Refute it at one input. -/
def fnDriftsWrong : ChangeSpec := { name := "fnDrifts", fn := fun _ => fun
  | [d] => { results := [.lit (.bool false)], args := [d] }
  | _ => none }
def FnDriftsWrongFalsely : Prop := fnDriftsRow.holds Try.pinned (OpenSpec.ofChange fnDriftsWrong)

/-- 'laws.FnBounded': WHATEVER THE INPUT: true; the input reads as it did. -/
def fnBoundedSpec : ChangeSpec := { name := "fnBounded", fn := fun _ => fun
  | [d] => { results := [.lit (.bool true)], args := [d] }
  | _ => none }
def fnBoundedRow : OpenClaim := { program := "ytlfbmedgkkfalaa", sum := "f798ff28c36197fc4dbc36e6020bf14f5f457839af3134521f3f284f6a7c7636", func := "loop.example/g00833/laws.FnBounded", spec := "fnBounded", inPlace := ["slices.overlaps[int64]"], unfollowed := true, recurses := true, apart := false }
def FnBoundedSaid : Prop := fnBoundedRow.holds Try.pinned (OpenSpec.ofChange fnBoundedSpec)

/-- ITS FALSE NEIGHBOUR: 'it returns false'. Refute it at one input. -/
def fnBoundedWrong : ChangeSpec := { name := "fnBounded", fn := fun _ => fun
  | [d] => { results := [.lit (.bool false)], args := [d] }
  | _ => none }
def FnBoundedWrongFalsely : Prop := fnBoundedRow.holds Try.pinned (OpenSpec.ofChange fnBoundedWrong)

/- THE SECOND FORM. 'bulk': how many values and letters a reading holds, each counted each time it is reached (what is shared counts as often as it is met; a slice's spare places count too). A statement '..UptoSaid' is the law's where the arguments, and the package variables that the reading takes, are together of bulk at most 1048576: NARROWER than '..Said'. Prove '..Said' where nothing that the law and all that it calls make is longer than what came in: it says more and counts as full. Else prove '..UptoSaid'. A law counts once. -/
mutual
def uptoBulk {H : Type} : DataW H → Nat
  | .lit (.string bytes) => bytes.length + 1
  | .lit _ => 1
  | .nil => 1
  | .ptr d => uptoBulk d + 1
  | .slice elems spare => uptoBulkAll elems + uptoBulkAll spare + 1
  | .agg parts => uptoBulkAll parts + 1
  | .iface _ d => uptoBulk d + 1
  | .map entries => uptoBulkEntries entries + 1
  | .held _ => 1
def uptoBulkAll {H : Type} : List (DataW H) → Nat
  | [] => 0
  | d :: r => uptoBulk d + uptoBulkAll r
def uptoBulkEntries {H : Type} : List (Lit × DataW H) → Nat
  | [] => 0
  | x :: r => uptoBulkEntry x + uptoBulkEntries r
def uptoBulkEntry {H : Type} : Lit × DataW H → Nat
  | (.string bytes, d) => bytes.length + uptoBulk d + 1
  | (_, d) => uptoBulk d + 1
 end
def uptoSmall : (H : Type) → List (DataW H) → Bool := fun _ ds => decide (uptoBulkAll ds ≤ 1048576)
def OpenSpec.upto (s : _root_.Go.ChangeSpec) : _root_.Go.OpenSpec := { _root_.Go.OpenSpec.ofChange s with cond := some uptoSmall }

/-- 'laws.FnExactSameVerdict', WHERE WHAT IT READS IS OF BULK AT MOST 1048576: true; the input reads as it did. -/
def fnExactSameVerdictUptoRow : OpenClaim := { program := "ytlfbmedgkkfalaa", sum := "f798ff28c36197fc4dbc36e6020bf14f5f457839af3134521f3f284f6a7c7636", func := "loop.example/g00833/laws.FnExactSameVerdict", spec := "fnExactSameVerdict", apart := false, narrowed := true }
def FnExactSameVerdictUptoSaid : Prop := fnExactSameVerdictUptoRow.holds Try.pinned (OpenSpec.upto fnExactSameVerdictSpec)

/-- 'laws.FnExactJoinScripts', WHERE WHAT IT READS IS OF BULK AT MOST 1048576: true; the input reads as it did. -/
def fnExactJoinScriptsUptoRow : OpenClaim := { program := "ytlfbmedgkkfalaa", sum := "f798ff28c36197fc4dbc36e6020bf14f5f457839af3134521f3f284f6a7c7636", func := "loop.example/g00833/laws.FnExactJoinScripts", spec := "fnExactJoinScripts", unfollowed := true, recurses := true, apart := false, narrowed := true }
def FnExactJoinScriptsUptoSaid : Prop := fnExactJoinScriptsUptoRow.holds Try.pinned (OpenSpec.upto fnExactJoinScriptsSpec)

/-- 'laws.FnExactIsVerdict', WHERE WHAT IT READS IS OF BULK AT MOST 1048576: true; the input reads as it did. -/
def fnExactIsVerdictUptoRow : OpenClaim := { program := "ytlfbmedgkkfalaa", sum := "f798ff28c36197fc4dbc36e6020bf14f5f457839af3134521f3f284f6a7c7636", func := "loop.example/g00833/laws.FnExactIsVerdict", spec := "fnExactIsVerdict", apart := false, narrowed := true }
def FnExactIsVerdictUptoSaid : Prop := fnExactIsVerdictUptoRow.holds Try.pinned (OpenSpec.upto fnExactIsVerdictSpec)

/-- 'laws.FnExactLengthAfter', WHERE WHAT IT READS IS OF BULK AT MOST 1048576: true; the input reads as it did. -/
def fnExactLengthAfterUptoRow : OpenClaim := { program := "ytlfbmedgkkfalaa", sum := "f798ff28c36197fc4dbc36e6020bf14f5f457839af3134521f3f284f6a7c7636", func := "loop.example/g00833/laws.FnExactLengthAfter", spec := "fnExactLengthAfter", inPlace := ["slices.overlaps[int64]"], unfollowed := true, recurses := true, apart := false, narrowed := true }
def FnExactLengthAfterUptoSaid : Prop := fnExactLengthAfterUptoRow.holds Try.pinned (OpenSpec.upto fnExactLengthAfterSpec)

/-- 'laws.FnDecodedSamples', WHERE WHAT IT READS IS OF BULK AT MOST 1048576: true; the input reads as it did. -/
def fnDecodedSamplesUptoRow : OpenClaim := { program := "ytlfbmedgkkfalaa", sum := "f798ff28c36197fc4dbc36e6020bf14f5f457839af3134521f3f284f6a7c7636", func := "loop.example/g00833/laws.FnDecodedSamples", spec := "fnDecodedSamples", apart := false, narrowed := true }
def FnDecodedSamplesUptoSaid : Prop := fnDecodedSamplesUptoRow.holds Try.pinned (OpenSpec.upto fnDecodedSamplesSpec)

/-- 'laws.FnVerdicts', WHERE WHAT IT READS IS OF BULK AT MOST 1048576: true; the input reads as it did. -/
def fnVerdictsUptoRow : OpenClaim := { program := "ytlfbmedgkkfalaa", sum := "f798ff28c36197fc4dbc36e6020bf14f5f457839af3134521f3f284f6a7c7636", func := "loop.example/g00833/laws.FnVerdicts", spec := "fnVerdicts", apart := false, narrowed := true }
def FnVerdictsUptoSaid : Prop := fnVerdictsUptoRow.holds Try.pinned (OpenSpec.upto fnVerdictsSpec)

/-- 'laws.FnExactApplyFault', WHERE WHAT IT READS IS OF BULK AT MOST 1048576: true; the input reads as it did. -/
def fnExactApplyFaultUptoRow : OpenClaim := { program := "ytlfbmedgkkfalaa", sum := "f798ff28c36197fc4dbc36e6020bf14f5f457839af3134521f3f284f6a7c7636", func := "loop.example/g00833/laws.FnExactApplyFault", spec := "fnExactApplyFault", inPlace := ["slices.overlaps[int64]"], unfollowed := true, recurses := true, apart := false, narrowed := true }
def FnExactApplyFaultUptoSaid : Prop := fnExactApplyFaultUptoRow.holds Try.pinned (OpenSpec.upto fnExactApplyFaultSpec)

/-- 'laws.FnExactFlipsOf', WHERE WHAT IT READS IS OF BULK AT MOST 1048576: true; the input reads as it did. -/
def fnExactFlipsOfUptoRow : OpenClaim := { program := "ytlfbmedgkkfalaa", sum := "f798ff28c36197fc4dbc36e6020bf14f5f457839af3134521f3f284f6a7c7636", func := "loop.example/g00833/laws.FnExactFlipsOf", spec := "fnExactFlipsOf", inPlace := ["slices.overlaps[int64]"], unfollowed := true, recurses := true, apart := false, narrowed := true }
def FnExactFlipsOfUptoSaid : Prop := fnExactFlipsOfUptoRow.holds Try.pinned (OpenSpec.upto fnExactFlipsOfSpec)

/-- 'laws.FnCellErrors', WHERE WHAT IT READS IS OF BULK AT MOST 1048576: true; the input reads as it did. -/
def fnCellErrorsUptoRow : OpenClaim := { program := "ytlfbmedgkkfalaa", sum := "f798ff28c36197fc4dbc36e6020bf14f5f457839af3134521f3f284f6a7c7636", func := "loop.example/g00833/laws.FnCellErrors", spec := "fnCellErrors", inPlace := ["slices.overlaps[int64]"], unfollowed := true, recurses := true, apart := false, narrowed := true }
def FnCellErrorsUptoSaid : Prop := fnCellErrorsUptoRow.holds Try.pinned (OpenSpec.upto fnCellErrorsSpec)

/-- 'laws.FnExactApplyScript', WHERE WHAT IT READS IS OF BULK AT MOST 1048576: true; the input reads as it did. -/
def fnExactApplyScriptUptoRow : OpenClaim := { program := "ytlfbmedgkkfalaa", sum := "f798ff28c36197fc4dbc36e6020bf14f5f457839af3134521f3f284f6a7c7636", func := "loop.example/g00833/laws.FnExactApplyScript", spec := "fnExactApplyScript", inPlace := ["slices.overlaps[int64]"], unfollowed := true, recurses := true, apart := false, narrowed := true }
def FnExactApplyScriptUptoSaid : Prop := fnExactApplyScriptUptoRow.holds Try.pinned (OpenSpec.upto fnExactApplyScriptSpec)

/-- 'laws.FnExactIsBounded', WHERE WHAT IT READS IS OF BULK AT MOST 1048576: true; the input reads as it did. -/
def fnExactIsBoundedUptoRow : OpenClaim := { program := "ytlfbmedgkkfalaa", sum := "f798ff28c36197fc4dbc36e6020bf14f5f457839af3134521f3f284f6a7c7636", func := "loop.example/g00833/laws.FnExactIsBounded", spec := "fnExactIsBounded", inPlace := ["slices.overlaps[int64]"], unfollowed := true, recurses := true, apart := false, narrowed := true }
def FnExactIsBoundedUptoSaid : Prop := fnExactIsBoundedUptoRow.holds Try.pinned (OpenSpec.upto fnExactIsBoundedSpec)

/-- 'laws.FnExactBoundOf', WHERE WHAT IT READS IS OF BULK AT MOST 1048576: true; the input reads as it did. -/
def fnExactBoundOfUptoRow : OpenClaim := { program := "ytlfbmedgkkfalaa", sum := "f798ff28c36197fc4dbc36e6020bf14f5f457839af3134521f3f284f6a7c7636", func := "loop.example/g00833/laws.FnExactBoundOf", spec := "fnExactBoundOf", inPlace := ["slices.overlaps[int64]"], unfollowed := true, recurses := true, apart := false, narrowed := true }
def FnExactBoundOfUptoSaid : Prop := fnExactBoundOfUptoRow.holds Try.pinned (OpenSpec.upto fnExactBoundOfSpec)

/-- 'laws.FnSilences', WHERE WHAT IT READS IS OF BULK AT MOST 1048576: true; the input reads as it did. -/
def fnSilencesUptoRow : OpenClaim := { program := "ytlfbmedgkkfalaa", sum := "f798ff28c36197fc4dbc36e6020bf14f5f457839af3134521f3f284f6a7c7636", func := "loop.example/g00833/laws.FnSilences", spec := "fnSilences", inPlace := ["slices.overlaps[int64]"], unfollowed := true, recurses := true, apart := false, narrowed := true }
def FnSilencesUptoSaid : Prop := fnSilencesUptoRow.holds Try.pinned (OpenSpec.upto fnSilencesSpec)

/-- 'laws.FnScripts', WHERE WHAT IT READS IS OF BULK AT MOST 1048576: true; the input reads as it did. -/
def fnScriptsUptoRow : OpenClaim := { program := "ytlfbmedgkkfalaa", sum := "f798ff28c36197fc4dbc36e6020bf14f5f457839af3134521f3f284f6a7c7636", func := "loop.example/g00833/laws.FnScripts", spec := "fnScripts", inPlace := ["slices.overlaps[int64]"], unfollowed := true, recurses := true, apart := false, narrowed := true }
def FnScriptsUptoSaid : Prop := fnScriptsUptoRow.holds Try.pinned (OpenSpec.upto fnScriptsSpec)

/-- 'laws.FnFlipScripts', WHERE WHAT IT READS IS OF BULK AT MOST 1048576: true; the input reads as it did. -/
def fnFlipScriptsUptoRow : OpenClaim := { program := "ytlfbmedgkkfalaa", sum := "f798ff28c36197fc4dbc36e6020bf14f5f457839af3134521f3f284f6a7c7636", func := "loop.example/g00833/laws.FnFlipScripts", spec := "fnFlipScripts", inPlace := ["slices.overlaps[int64]"], unfollowed := true, recurses := true, apart := false, narrowed := true }
def FnFlipScriptsUptoSaid : Prop := fnFlipScriptsUptoRow.holds Try.pinned (OpenSpec.upto fnFlipScriptsSpec)

/-- 'laws.FnDecoder', WHERE WHAT IT READS IS OF BULK AT MOST 1048576: true; the input reads as it did. -/
def fnDecoderUptoRow : OpenClaim := { program := "ytlfbmedgkkfalaa", sum := "f798ff28c36197fc4dbc36e6020bf14f5f457839af3134521f3f284f6a7c7636", func := "loop.example/g00833/laws.FnDecoder", spec := "fnDecoder", apart := false, narrowed := true }
def FnDecoderUptoSaid : Prop := fnDecoderUptoRow.holds Try.pinned (OpenSpec.upto fnDecoderSpec)

/-- 'laws.FnStrobes', WHERE WHAT IT READS IS OF BULK AT MOST 1048576: true; the input reads as it did. -/
def fnStrobesUptoRow : OpenClaim := { program := "ytlfbmedgkkfalaa", sum := "f798ff28c36197fc4dbc36e6020bf14f5f457839af3134521f3f284f6a7c7636", func := "loop.example/g00833/laws.FnStrobes", spec := "fnStrobes", apart := false, narrowed := true }
def FnStrobesUptoSaid : Prop := fnStrobesUptoRow.holds Try.pinned (OpenSpec.upto fnStrobesSpec)

/-- 'laws.FnSlips', WHERE WHAT IT READS IS OF BULK AT MOST 1048576: true; the input reads as it did. -/
def fnSlipsUptoRow : OpenClaim := { program := "ytlfbmedgkkfalaa", sum := "f798ff28c36197fc4dbc36e6020bf14f5f457839af3134521f3f284f6a7c7636", func := "loop.example/g00833/laws.FnSlips", spec := "fnSlips", inPlace := ["slices.overlaps[int64]"], unfollowed := true, recurses := true, apart := false, narrowed := true }
def FnSlipsUptoSaid : Prop := fnSlipsUptoRow.holds Try.pinned (OpenSpec.upto fnSlipsSpec)

/-- 'laws.FnNominal', WHERE WHAT IT READS IS OF BULK AT MOST 1048576: true; the input reads as it did. -/
def fnNominalUptoRow : OpenClaim := { program := "ytlfbmedgkkfalaa", sum := "f798ff28c36197fc4dbc36e6020bf14f5f457839af3134521f3f284f6a7c7636", func := "loop.example/g00833/laws.FnNominal", spec := "fnNominal", recurses := true, apart := false, narrowed := true }
def FnNominalUptoSaid : Prop := fnNominalUptoRow.holds Try.pinned (OpenSpec.upto fnNominalSpec)

/-- 'laws.FnDrifts', WHERE WHAT IT READS IS OF BULK AT MOST 1048576: true; the input reads as it did. -/
def fnDriftsUptoRow : OpenClaim := { program := "ytlfbmedgkkfalaa", sum := "f798ff28c36197fc4dbc36e6020bf14f5f457839af3134521f3f284f6a7c7636", func := "loop.example/g00833/laws.FnDrifts", spec := "fnDrifts", recurses := true, apart := false, narrowed := true }
def FnDriftsUptoSaid : Prop := fnDriftsUptoRow.holds Try.pinned (OpenSpec.upto fnDriftsSpec)

/-- 'laws.FnBounded', WHERE WHAT IT READS IS OF BULK AT MOST 1048576: true; the input reads as it did. -/
def fnBoundedUptoRow : OpenClaim := { program := "ytlfbmedgkkfalaa", sum := "f798ff28c36197fc4dbc36e6020bf14f5f457839af3134521f3f284f6a7c7636", func := "loop.example/g00833/laws.FnBounded", spec := "fnBounded", inPlace := ["slices.overlaps[int64]"], unfollowed := true, recurses := true, apart := false, narrowed := true }
def FnBoundedUptoSaid : Prop := fnBoundedUptoRow.holds Try.pinned (OpenSpec.upto fnBoundedSpec)

end Rows
end Go.Proofs.Ytlfbmedgkkfalaa
