/-
  No cell of these rows narrows 'for every input' (looked for: loops, veiled, ifaces, maps, wideKeys, modest, calm, conditions, laid).
  DERIVED. THE GIVEN ROWS OF THIS SEAT. 13 by the template 'for every input the law returns true; each argument reads behind the call as it read before'; 0 by the template 'total and deterministic' (their statements: YtjehkjdehkdjcaaTotals.lean).
  GIVEN WITH THE SEED: the statements are not yours to turn. If you find one false, say at which input.
  Laid BY PROGRAM, IN A SANDBOX (cutbox-rows.mjs): the forced cells as the released guide's own fill.sh prints them over the translation 04e1d8836c72ae5a… (all of the seat's roots in one cut). By AI agents, Wed Nov 11 2026. No macro, syntax, notation, axiom, sorry.
-/
import Derived.Test.YtjehkjdehkdjcaaChecked
import GoSem.Claim
import GoSem.ClaimJoined
import GoSem.ClaimMapViews
import Derived.JoinedTies
import Derived.KernelRfl
namespace Go.Proofs.Ytjehkjdehkdjcaa
/- THE CELL 'sum', in the pinned program and in every row, IS THE sha256 OF THE DUMP (.gsa) THAT YtjehkjdehkdjcaaProg.lean LOADS. Nothing in Lean hashes anything: it is a label: what it is worth is what the hold of that sum in a sandbox is worth. -/
noncomputable def Try.pinned : Pinned := { name := "ytjehkjdehkdjcaa", sum := "04e1d8836c72ae5aa0ad01c7abcfc7a58655b26cb4fbad113a591e05524ff232", checked := Try.checked }
namespace Rows
def none {H : Type} : Left H := { results := [], args := [] }

/-- 'laws.FnExactIsVerdict': WHATEVER THE INPUT: true; the input reads as it did. -/
def fnExactIsVerdictSpec : ChangeSpec := { name := "fnExactIsVerdict", fn := fun _ => fun
  | [d] => { results := [.lit (.bool true)], args := [d] }
  | _ => none }
def fnExactIsVerdictRow : OpenClaim := { program := "ytjehkjdehkdjcaa", sum := "04e1d8836c72ae5aa0ad01c7abcfc7a58655b26cb4fbad113a591e05524ff232", func := "loop.example/g00833/laws.FnExactIsVerdict", spec := "fnExactIsVerdict", apart := false }
def FnExactIsVerdictSaid : Prop := fnExactIsVerdictRow.holds Try.pinned (OpenSpec.ofChange fnExactIsVerdictSpec)

/-- ITS FALSE NEIGHBOUR: 'it returns false'. Refute it at one input. -/
def fnExactIsVerdictWrong : ChangeSpec := { name := "fnExactIsVerdict", fn := fun _ => fun
  | [d] => { results := [.lit (.bool false)], args := [d] }
  | _ => none }
def FnExactIsVerdictWrongFalsely : Prop := fnExactIsVerdictRow.holds Try.pinned (OpenSpec.ofChange fnExactIsVerdictWrong)

/-- 'laws.FnDecodedSamples': WHATEVER THE INPUT: true; the input reads as it did. -/
def fnDecodedSamplesSpec : ChangeSpec := { name := "fnDecodedSamples", fn := fun _ => fun
  | [d] => { results := [.lit (.bool true)], args := [d] }
  | _ => none }
def fnDecodedSamplesRow : OpenClaim := { program := "ytjehkjdehkdjcaa", sum := "04e1d8836c72ae5aa0ad01c7abcfc7a58655b26cb4fbad113a591e05524ff232", func := "loop.example/g00833/laws.FnDecodedSamples", spec := "fnDecodedSamples", apart := false }
def FnDecodedSamplesSaid : Prop := fnDecodedSamplesRow.holds Try.pinned (OpenSpec.ofChange fnDecodedSamplesSpec)

/-- ITS FALSE NEIGHBOUR: 'it returns false'. Refute it at one input. -/
def fnDecodedSamplesWrong : ChangeSpec := { name := "fnDecodedSamples", fn := fun _ => fun
  | [d] => { results := [.lit (.bool false)], args := [d] }
  | _ => none }
def FnDecodedSamplesWrongFalsely : Prop := fnDecodedSamplesRow.holds Try.pinned (OpenSpec.ofChange fnDecodedSamplesWrong)

/-- 'laws.FnVerdicts': WHATEVER THE INPUT: true; the input reads as it did. -/
def fnVerdictsSpec : ChangeSpec := { name := "fnVerdicts", fn := fun _ => fun
  | [d] => { results := [.lit (.bool true)], args := [d] }
  | _ => none }
def fnVerdictsRow : OpenClaim := { program := "ytjehkjdehkdjcaa", sum := "04e1d8836c72ae5aa0ad01c7abcfc7a58655b26cb4fbad113a591e05524ff232", func := "loop.example/g00833/laws.FnVerdicts", spec := "fnVerdicts", apart := false }
def FnVerdictsSaid : Prop := fnVerdictsRow.holds Try.pinned (OpenSpec.ofChange fnVerdictsSpec)

/-- ITS FALSE NEIGHBOUR: 'it returns false'. Refute it at one input. -/
def fnVerdictsWrong : ChangeSpec := { name := "fnVerdicts", fn := fun _ => fun
  | [d] => { results := [.lit (.bool false)], args := [d] }
  | _ => none }
def FnVerdictsWrongFalsely : Prop := fnVerdictsRow.holds Try.pinned (OpenSpec.ofChange fnVerdictsWrong)

/-- 'laws.FnCellErrors': WHATEVER THE INPUT: true; the input reads as it did. -/
def fnCellErrorsSpec : ChangeSpec := { name := "fnCellErrors", fn := fun _ => fun
  | [d] => { results := [.lit (.bool true)], args := [d] }
  | _ => none }
def fnCellErrorsRow : OpenClaim := { program := "ytjehkjdehkdjcaa", sum := "04e1d8836c72ae5aa0ad01c7abcfc7a58655b26cb4fbad113a591e05524ff232", func := "loop.example/g00833/laws.FnCellErrors", spec := "fnCellErrors", inPlace := ["slices.overlaps[int64]"], unfollowed := true, recurses := true, apart := false }
def FnCellErrorsSaid : Prop := fnCellErrorsRow.holds Try.pinned (OpenSpec.ofChange fnCellErrorsSpec)

/-- ITS FALSE NEIGHBOUR: 'it returns false'. Refute it at one input. -/
def fnCellErrorsWrong : ChangeSpec := { name := "fnCellErrors", fn := fun _ => fun
  | [d] => { results := [.lit (.bool false)], args := [d] }
  | _ => none }
def FnCellErrorsWrongFalsely : Prop := fnCellErrorsRow.holds Try.pinned (OpenSpec.ofChange fnCellErrorsWrong)

/-- 'laws.FnSilences': WHATEVER THE INPUT: true; the input reads as it did. -/
def fnSilencesSpec : ChangeSpec := { name := "fnSilences", fn := fun _ => fun
  | [d] => { results := [.lit (.bool true)], args := [d] }
  | _ => none }
def fnSilencesRow : OpenClaim := { program := "ytjehkjdehkdjcaa", sum := "04e1d8836c72ae5aa0ad01c7abcfc7a58655b26cb4fbad113a591e05524ff232", func := "loop.example/g00833/laws.FnSilences", spec := "fnSilences", inPlace := ["slices.overlaps[int64]"], unfollowed := true, recurses := true, apart := false }
def FnSilencesSaid : Prop := fnSilencesRow.holds Try.pinned (OpenSpec.ofChange fnSilencesSpec)

/-- ITS FALSE NEIGHBOUR: 'it returns false'. Refute it at one input. -/
def fnSilencesWrong : ChangeSpec := { name := "fnSilences", fn := fun _ => fun
  | [d] => { results := [.lit (.bool false)], args := [d] }
  | _ => none }
def FnSilencesWrongFalsely : Prop := fnSilencesRow.holds Try.pinned (OpenSpec.ofChange fnSilencesWrong)

/-- 'laws.FnScripts': WHATEVER THE INPUT: true; the input reads as it did. -/
def fnScriptsSpec : ChangeSpec := { name := "fnScripts", fn := fun _ => fun
  | [d] => { results := [.lit (.bool true)], args := [d] }
  | _ => none }
def fnScriptsRow : OpenClaim := { program := "ytjehkjdehkdjcaa", sum := "04e1d8836c72ae5aa0ad01c7abcfc7a58655b26cb4fbad113a591e05524ff232", func := "loop.example/g00833/laws.FnScripts", spec := "fnScripts", inPlace := ["slices.overlaps[int64]"], unfollowed := true, recurses := true, apart := false }
def FnScriptsSaid : Prop := fnScriptsRow.holds Try.pinned (OpenSpec.ofChange fnScriptsSpec)

/-- ITS FALSE NEIGHBOUR: 'it returns false'. Refute it at one input. -/
def fnScriptsWrong : ChangeSpec := { name := "fnScripts", fn := fun _ => fun
  | [d] => { results := [.lit (.bool false)], args := [d] }
  | _ => none }
def FnScriptsWrongFalsely : Prop := fnScriptsRow.holds Try.pinned (OpenSpec.ofChange fnScriptsWrong)

/-- 'laws.FnFlipScripts': WHATEVER THE INPUT: true; the input reads as it did. -/
def fnFlipScriptsSpec : ChangeSpec := { name := "fnFlipScripts", fn := fun _ => fun
  | [d] => { results := [.lit (.bool true)], args := [d] }
  | _ => none }
def fnFlipScriptsRow : OpenClaim := { program := "ytjehkjdehkdjcaa", sum := "04e1d8836c72ae5aa0ad01c7abcfc7a58655b26cb4fbad113a591e05524ff232", func := "loop.example/g00833/laws.FnFlipScripts", spec := "fnFlipScripts", inPlace := ["slices.overlaps[int64]"], unfollowed := true, recurses := true, apart := false }
def FnFlipScriptsSaid : Prop := fnFlipScriptsRow.holds Try.pinned (OpenSpec.ofChange fnFlipScriptsSpec)

/-- ITS FALSE NEIGHBOUR: 'it returns false'. Refute it at one input. -/
def fnFlipScriptsWrong : ChangeSpec := { name := "fnFlipScripts", fn := fun _ => fun
  | [d] => { results := [.lit (.bool false)], args := [d] }
  | _ => none }
def FnFlipScriptsWrongFalsely : Prop := fnFlipScriptsRow.holds Try.pinned (OpenSpec.ofChange fnFlipScriptsWrong)

/-- 'laws.FnDecoder': WHATEVER THE INPUT: true; the input reads as it did. -/
def fnDecoderSpec : ChangeSpec := { name := "fnDecoder", fn := fun _ => fun
  | [d] => { results := [.lit (.bool true)], args := [d] }
  | _ => none }
def fnDecoderRow : OpenClaim := { program := "ytjehkjdehkdjcaa", sum := "04e1d8836c72ae5aa0ad01c7abcfc7a58655b26cb4fbad113a591e05524ff232", func := "loop.example/g00833/laws.FnDecoder", spec := "fnDecoder", apart := false }
def FnDecoderSaid : Prop := fnDecoderRow.holds Try.pinned (OpenSpec.ofChange fnDecoderSpec)

/-- ITS FALSE NEIGHBOUR: 'it returns false'. Refute it at one input. -/
def fnDecoderWrong : ChangeSpec := { name := "fnDecoder", fn := fun _ => fun
  | [d] => { results := [.lit (.bool false)], args := [d] }
  | _ => none }
def FnDecoderWrongFalsely : Prop := fnDecoderRow.holds Try.pinned (OpenSpec.ofChange fnDecoderWrong)

/-- 'laws.FnStrobes': WHATEVER THE INPUT: true; the input reads as it did. -/
def fnStrobesSpec : ChangeSpec := { name := "fnStrobes", fn := fun _ => fun
  | [d] => { results := [.lit (.bool true)], args := [d] }
  | _ => none }
def fnStrobesRow : OpenClaim := { program := "ytjehkjdehkdjcaa", sum := "04e1d8836c72ae5aa0ad01c7abcfc7a58655b26cb4fbad113a591e05524ff232", func := "loop.example/g00833/laws.FnStrobes", spec := "fnStrobes", apart := false }
def FnStrobesSaid : Prop := fnStrobesRow.holds Try.pinned (OpenSpec.ofChange fnStrobesSpec)

/-- ITS FALSE NEIGHBOUR: 'it returns false'. Refute it at one input. -/
def fnStrobesWrong : ChangeSpec := { name := "fnStrobes", fn := fun _ => fun
  | [d] => { results := [.lit (.bool false)], args := [d] }
  | _ => none }
def FnStrobesWrongFalsely : Prop := fnStrobesRow.holds Try.pinned (OpenSpec.ofChange fnStrobesWrong)

/-- 'laws.FnSlips': WHATEVER THE INPUT: true; the input reads as it did. -/
def fnSlipsSpec : ChangeSpec := { name := "fnSlips", fn := fun _ => fun
  | [d] => { results := [.lit (.bool true)], args := [d] }
  | _ => none }
def fnSlipsRow : OpenClaim := { program := "ytjehkjdehkdjcaa", sum := "04e1d8836c72ae5aa0ad01c7abcfc7a58655b26cb4fbad113a591e05524ff232", func := "loop.example/g00833/laws.FnSlips", spec := "fnSlips", inPlace := ["slices.overlaps[int64]"], unfollowed := true, recurses := true, apart := false }
def FnSlipsSaid : Prop := fnSlipsRow.holds Try.pinned (OpenSpec.ofChange fnSlipsSpec)

/-- ITS FALSE NEIGHBOUR: 'it returns false'. Refute it at one input. -/
def fnSlipsWrong : ChangeSpec := { name := "fnSlips", fn := fun _ => fun
  | [d] => { results := [.lit (.bool false)], args := [d] }
  | _ => none }
def FnSlipsWrongFalsely : Prop := fnSlipsRow.holds Try.pinned (OpenSpec.ofChange fnSlipsWrong)

/-- 'laws.FnNominal': WHATEVER THE INPUT: true; the input reads as it did. -/
def fnNominalSpec : ChangeSpec := { name := "fnNominal", fn := fun _ => fun
  | [d] => { results := [.lit (.bool true)], args := [d] }
  | _ => none }
def fnNominalRow : OpenClaim := { program := "ytjehkjdehkdjcaa", sum := "04e1d8836c72ae5aa0ad01c7abcfc7a58655b26cb4fbad113a591e05524ff232", func := "loop.example/g00833/laws.FnNominal", spec := "fnNominal", recurses := true, apart := false }
def FnNominalSaid : Prop := fnNominalRow.holds Try.pinned (OpenSpec.ofChange fnNominalSpec)

/-- ITS FALSE NEIGHBOUR: 'it returns false'. Refute it at one input. -/
def fnNominalWrong : ChangeSpec := { name := "fnNominal", fn := fun _ => fun
  | [d] => { results := [.lit (.bool false)], args := [d] }
  | _ => none }
def FnNominalWrongFalsely : Prop := fnNominalRow.holds Try.pinned (OpenSpec.ofChange fnNominalWrong)

/-- 'laws.FnDrifts': WHATEVER THE INPUT: true; the input reads as it did. -/
def fnDriftsSpec : ChangeSpec := { name := "fnDrifts", fn := fun _ => fun
  | [d] => { results := [.lit (.bool true)], args := [d] }
  | _ => none }
def fnDriftsRow : OpenClaim := { program := "ytjehkjdehkdjcaa", sum := "04e1d8836c72ae5aa0ad01c7abcfc7a58655b26cb4fbad113a591e05524ff232", func := "loop.example/g00833/laws.FnDrifts", spec := "fnDrifts", recurses := true, apart := false }
def FnDriftsSaid : Prop := fnDriftsRow.holds Try.pinned (OpenSpec.ofChange fnDriftsSpec)

/-- ITS FALSE NEIGHBOUR: 'it returns false'. Refute it at one input. -/
def fnDriftsWrong : ChangeSpec := { name := "fnDrifts", fn := fun _ => fun
  | [d] => { results := [.lit (.bool false)], args := [d] }
  | _ => none }
def FnDriftsWrongFalsely : Prop := fnDriftsRow.holds Try.pinned (OpenSpec.ofChange fnDriftsWrong)

/-- 'laws.FnBounded': WHATEVER THE INPUT: true; the input reads as it did. -/
def fnBoundedSpec : ChangeSpec := { name := "fnBounded", fn := fun _ => fun
  | [d] => { results := [.lit (.bool true)], args := [d] }
  | _ => none }
def fnBoundedRow : OpenClaim := { program := "ytjehkjdehkdjcaa", sum := "04e1d8836c72ae5aa0ad01c7abcfc7a58655b26cb4fbad113a591e05524ff232", func := "loop.example/g00833/laws.FnBounded", spec := "fnBounded", inPlace := ["slices.overlaps[int64]"], unfollowed := true, recurses := true, apart := false }
def FnBoundedSaid : Prop := fnBoundedRow.holds Try.pinned (OpenSpec.ofChange fnBoundedSpec)

/-- ITS FALSE NEIGHBOUR: 'it returns false'. Refute it at one input. -/
def fnBoundedWrong : ChangeSpec := { name := "fnBounded", fn := fun _ => fun
  | [d] => { results := [.lit (.bool false)], args := [d] }
  | _ => none }
def FnBoundedWrongFalsely : Prop := fnBoundedRow.holds Try.pinned (OpenSpec.ofChange fnBoundedWrong)

/- THE SECOND FORM. 'bulk': how many values and letters a reading holds, each counted each time it is reached (what is shared counts as often as it is met; a slice's spare places count too). A statement '..UptoSaid' is the law's where the arguments, and the package variables that the reading takes, are together of bulk at most 1048576: NARROWER than '..Said'. Prove '..Said' where nothing that the law and all that it calls make is longer than what came in: it says more and counts as full. Else prove '..UptoSaid'. A law counts once. -/
mutual
def uptoBulk {H : Type} : DataW H → Nat
  | .lit (.string bytes) => bytes.length + 1
  | .lit _ => 1
  | .nil => 1
  | .ptr d => uptoBulk d + 1
  | .slice elems spare => uptoBulkAll elems + uptoBulkAll spare + 1
  | .agg parts => uptoBulkAll parts + 1
  | .iface _ d => uptoBulk d + 1
  | .map entries => uptoBulkEntries entries + 1
  | .held _ => 1
def uptoBulkAll {H : Type} : List (DataW H) → Nat
  | [] => 0
  | d :: r => uptoBulk d + uptoBulkAll r
def uptoBulkEntries {H : Type} : List (Lit × DataW H) → Nat
  | [] => 0
  | x :: r => uptoBulkEntry x + uptoBulkEntries r
def uptoBulkEntry {H : Type} : Lit × DataW H → Nat
  | (.string bytes, d) => bytes.length + uptoBulk d + 1
  | (_, d) => uptoBulk d + 1
 end
def uptoSmall : (H : Type) → List (DataW H) → Bool := fun _ ds => decide (uptoBulkAll ds ≤ 1048576)
def OpenSpec.upto (s : _root_.Go.ChangeSpec) : _root_.Go.OpenSpec := { _root_.Go.OpenSpec.ofChange s with cond := some uptoSmall }

/-- 'laws.FnExactIsVerdict', WHERE WHAT IT READS IS OF BULK AT MOST 1048576: true; the input reads as it did. -/
def fnExactIsVerdictUptoRow : OpenClaim := { program := "ytjehkjdehkdjcaa", sum := "04e1d8836c72ae5aa0ad01c7abcfc7a58655b26cb4fbad113a591e05524ff232", func := "loop.example/g00833/laws.FnExactIsVerdict", spec := "fnExactIsVerdict", apart := false, narrowed := true }
def FnExactIsVerdictUptoSaid : Prop := fnExactIsVerdictUptoRow.holds Try.pinned (OpenSpec.upto fnExactIsVerdictSpec)

/-- 'laws.FnDecodedSamples', WHERE WHAT IT READS IS OF BULK AT MOST 1048576: true; the input reads as it did. -/
def fnDecodedSamplesUptoRow : OpenClaim := { program := "ytjehkjdehkdjcaa", sum := "04e1d8836c72ae5aa0ad01c7abcfc7a58655b26cb4fbad113a591e05524ff232", func := "loop.example/g00833/laws.FnDecodedSamples", spec := "fnDecodedSamples", apart := false, narrowed := true }
def FnDecodedSamplesUptoSaid : Prop := fnDecodedSamplesUptoRow.holds Try.pinned (OpenSpec.upto fnDecodedSamplesSpec)

/-- 'laws.FnVerdicts', WHERE WHAT IT READS IS OF BULK AT MOST 1048576: true; the input reads as it did. -/
def fnVerdictsUptoRow : OpenClaim := { program := "ytjehkjdehkdjcaa", sum := "04e1d8836c72ae5aa0ad01c7abcfc7a58655b26cb4fbad113a591e05524ff232", func := "loop.example/g00833/laws.FnVerdicts", spec := "fnVerdicts", apart := false, narrowed := true }
def FnVerdictsUptoSaid : Prop := fnVerdictsUptoRow.holds Try.pinned (OpenSpec.upto fnVerdictsSpec)

/-- 'laws.FnCellErrors', WHERE WHAT IT READS IS OF BULK AT MOST 1048576: true; the input reads as it did. -/
def fnCellErrorsUptoRow : OpenClaim := { program := "ytjehkjdehkdjcaa", sum := "04e1d8836c72ae5aa0ad01c7abcfc7a58655b26cb4fbad113a591e05524ff232", func := "loop.example/g00833/laws.FnCellErrors", spec := "fnCellErrors", inPlace := ["slices.overlaps[int64]"], unfollowed := true, recurses := true, apart := false, narrowed := true }
def FnCellErrorsUptoSaid : Prop := fnCellErrorsUptoRow.holds Try.pinned (OpenSpec.upto fnCellErrorsSpec)

/-- 'laws.FnSilences', WHERE WHAT IT READS IS OF BULK AT MOST 1048576: true; the input reads as it did. -/
def fnSilencesUptoRow : OpenClaim := { program := "ytjehkjdehkdjcaa", sum := "04e1d8836c72ae5aa0ad01c7abcfc7a58655b26cb4fbad113a591e05524ff232", func := "loop.example/g00833/laws.FnSilences", spec := "fnSilences", inPlace := ["slices.overlaps[int64]"], unfollowed := true, recurses := true, apart := false, narrowed := true }
def FnSilencesUptoSaid : Prop := fnSilencesUptoRow.holds Try.pinned (OpenSpec.upto fnSilencesSpec)

/-- 'laws.FnScripts', WHERE WHAT IT READS IS OF BULK AT MOST 1048576: true; the input reads as it did. -/
def fnScriptsUptoRow : OpenClaim := { program := "ytjehkjdehkdjcaa", sum := "04e1d8836c72ae5aa0ad01c7abcfc7a58655b26cb4fbad113a591e05524ff232", func := "loop.example/g00833/laws.FnScripts", spec := "fnScripts", inPlace := ["slices.overlaps[int64]"], unfollowed := true, recurses := true, apart := false, narrowed := true }
def FnScriptsUptoSaid : Prop := fnScriptsUptoRow.holds Try.pinned (OpenSpec.upto fnScriptsSpec)

/-- 'laws.FnFlipScripts', WHERE WHAT IT READS IS OF BULK AT MOST 1048576: true; the input reads as it did. -/
def fnFlipScriptsUptoRow : OpenClaim := { program := "ytjehkjdehkdjcaa", sum := "04e1d8836c72ae5aa0ad01c7abcfc7a58655b26cb4fbad113a591e05524ff232", func := "loop.example/g00833/laws.FnFlipScripts", spec := "fnFlipScripts", inPlace := ["slices.overlaps[int64]"], unfollowed := true, recurses := true, apart := false, narrowed := true }
def FnFlipScriptsUptoSaid : Prop := fnFlipScriptsUptoRow.holds Try.pinned (OpenSpec.upto fnFlipScriptsSpec)

/-- 'laws.FnDecoder', WHERE WHAT IT READS IS OF BULK AT MOST 1048576: true; the input reads as it did. -/
def fnDecoderUptoRow : OpenClaim := { program := "ytjehkjdehkdjcaa", sum := "04e1d8836c72ae5aa0ad01c7abcfc7a58655b26cb4fbad113a591e05524ff232", func := "loop.example/g00833/laws.FnDecoder", spec := "fnDecoder", apart := false, narrowed := true }
def FnDecoderUptoSaid : Prop := fnDecoderUptoRow.holds Try.pinned (OpenSpec.upto fnDecoderSpec)

/-- 'laws.FnStrobes', WHERE WHAT IT READS IS OF BULK AT MOST 1048576: true; the input reads as it did. -/
def fnStrobesUptoRow : OpenClaim := { program := "ytjehkjdehkdjcaa", sum := "04e1d8836c72ae5aa0ad01c7abcfc7a58655b26cb4fbad113a591e05524ff232", func := "loop.example/g00833/laws.FnStrobes", spec := "fnStrobes", apart := false, narrowed := true }
def FnStrobesUptoSaid : Prop := fnStrobesUptoRow.holds Try.pinned (OpenSpec.upto fnStrobesSpec)

/-- 'laws.FnSlips', WHERE WHAT IT READS IS OF BULK AT MOST 1048576: true; the input reads as it did. -/
def fnSlipsUptoRow : OpenClaim := { program := "ytjehkjdehkdjcaa", sum := "04e1d8836c72ae5aa0ad01c7abcfc7a58655b26cb4fbad113a591e05524ff232", func := "loop.example/g00833/laws.FnSlips", spec := "fnSlips", inPlace := ["slices.overlaps[int64]"], unfollowed := true, recurses := true, apart := false, narrowed := true }
def FnSlipsUptoSaid : Prop := fnSlipsUptoRow.holds Try.pinned (OpenSpec.upto fnSlipsSpec)

/-- 'laws.FnNominal', WHERE WHAT IT READS IS OF BULK AT MOST 1048576: true; the input reads as it did. -/
def fnNominalUptoRow : OpenClaim := { program := "ytjehkjdehkdjcaa", sum := "04e1d8836c72ae5aa0ad01c7abcfc7a58655b26cb4fbad113a591e05524ff232", func := "loop.example/g00833/laws.FnNominal", spec := "fnNominal", recurses := true, apart := false, narrowed := true }
def FnNominalUptoSaid : Prop := fnNominalUptoRow.holds Try.pinned (OpenSpec.upto fnNominalSpec)

/-- 'laws.FnDrifts', WHERE WHAT IT READS IS OF BULK AT MOST 1048576: true; the input reads as it did. -/
def fnDriftsUptoRow : OpenClaim := { program := "ytjehkjdehkdjcaa", sum := "04e1d8836c72ae5aa0ad01c7abcfc7a58655b26cb4fbad113a591e05524ff232", func := "loop.example/g00833/laws.FnDrifts", spec := "fnDrifts", recurses := true, apart := false, narrowed := true }
def FnDriftsUptoSaid : Prop := fnDriftsUptoRow.holds Try.pinned (OpenSpec.upto fnDriftsSpec)

/-- 'laws.FnBounded', WHERE WHAT IT READS IS OF BULK AT MOST 1048576: true; the input reads as it did. -/
def fnBoundedUptoRow : OpenClaim := { program := "ytjehkjdehkdjcaa", sum := "04e1d8836c72ae5aa0ad01c7abcfc7a58655b26cb4fbad113a591e05524ff232", func := "loop.example/g00833/laws.FnBounded", spec := "fnBounded", inPlace := ["slices.overlaps[int64]"], unfollowed := true, recurses := true, apart := false, narrowed := true }
def FnBoundedUptoSaid : Prop := fnBoundedUptoRow.holds Try.pinned (OpenSpec.upto fnBoundedSpec)

end Rows
end Go.Proofs.Ytjehkjdehkdjcaa
