/- Walks, laws and small notions for the claims of this seat, several texts as one (RowM, Lm). Conditions: as each theorem states them. -/
import Derived.Test.YtbaojbheopcjhaaGreatDoorB4
import Derived.Test.YtbaojbheopcjhaaGreatDoorCards
import Derived.Test.YtbaojbheopcjhaaGreatDoorTie
import Derived.Deep.DeepHandedRow
import Derived.Lib.LaidTab
import Derived.Stop.LaidErr
import Derived.MakeChecks
import Derived.WalkKit
import Derived.ProofKit
import Derived.OpenShut
import Derived.LaidMore
import Derived.Deep.DeepWitnessRowRef
import Derived.LaidLaws
import Derived.RowKitTokens
namespace Go.Proofs.YtbaojbheopcjhaaGreatDoor
open Go.ChangeShapes Go.WideShapes Go.ChangeAt Go.RowKit

theorem array4 {α : Type} {cs : Array α} (h : cs.size = 4) : ∃ a b c d, cs = #[a, b, c, d] := by
  obtain ⟨l⟩ := cs
  match l, h with
  | [a, b, c, d], _ => exact ⟨a, b, c, d, rfl⟩
theorem array5 {α : Type} {cs : Array α} (h : cs.size = 5) : ∃ a b c d e, cs = #[a, b, c, d, e] := by
  obtain ⟨l⟩ := cs
  match l, h with
  | [a, b, c, d, e], _ => exact ⟨a, b, c, d, e, rfl⟩
theorem array8 {α : Type} {cs : Array α} (h : cs.size = 8) : ∃ a b c d e f g k, cs = #[a, b, c, d, e, f, g, k] := by
  obtain ⟨l⟩ := cs
  match l, h with
  | [a, b, c, d, e, f, g, k], _ => exact ⟨a, b, c, d, e, f, g, k, rfl⟩
/-- what an argument that is a schedule brings -/
structure MX (W : World) (m : Mdv) (M : Mdl) : Prop where
  id : M.id = m.id
  rn : RE encNd 4 W W.heap.size m.An m.nn M.ns
  rm : RM W W.heap.size m.Am m.nm M.ms
  rs : RE encSl 8 W W.heap.size m.As m.ns M.ss
  bn : m.nn ≤ maxLen
  bm : m.nm ≤ maxLen
  bs : m.ns ≤ maxLen
  nm : ∀ i, i < m.nn → (ge M.ns i).nm.size ≤ maxLen
  i : I64 m.id
  qn : ∀ i, i < m.nn → (ge M.ns i).wf
  qm : ∀ i, i < m.nm → (ge M.ms i).wf
  qs : ∀ i, i < m.ns → (ge M.ss i).wf

section
variable {H : Type} {enc : TypeId × Value → H} {W : World} {base : Nat} {r : Reach} {v : Value} {d : DataW H} {p : List MemPlace}
end
end Go.Proofs.YtbaojbheopcjhaaGreatDoor

namespace Go.Proofs.YtbaojbheopcjhaaGreatDoor
open Go.ChangeShapes Go.WideShapes Go.ChangeAt Go.RowKit

def setCells (cs : Array Value) : Obj → Obj | .cells _ t z => .cells cs t z | o => o
noncomputable def LmWorld (os : Os) : World :=
  { World.doorLaid Tryz.prog 72 os with heap := (World.doorLaid Tryz.prog 72 os).heap.modify 0 (setCells (Go.Pinned.utf8FirstZ.map fun z : Nat => Value.int .u8 (z : Int)).toArray) }
theorem Lm_table {l : List (String × DataW Unit)} {W : World} (_ : laidMetH Tryz.prog l W) (_ : W.ShapedOpen Tryz.prog) : True := trivial
theorem Lm_witness {H : Type} {enc : TypeId × Value → H} {C : Checked} {os : Os} {f : FuncId} {fn : Func} {s : OpenSpec} {conds : List PathCond} {apart : Bool} {laid : List (String × DataW Unit)} (modest : Bool) (w0 : World) (args : Array Value) (hos : w0.os = os)
    (hv : (w0.forCall (fun _ _ => 0) ⟨#[], args, []⟩).variablesRefB C.prog = true)
    (hr : ((w0.forCall (fun _ _ => 0) ⟨#[], args, []⟩).heap.toList.drop C.prog.globals.size).take ((begin C.prog (fun _ _ => 0) default).world.heap.size - C.prog.globals.size) =
      (begin C.prog (fun _ _ => 0) default).world.heap.toList.drop C.prog.globals.size)
    (hok : Input.okWideB C.prog (w0.forCall (fun _ _ => 0) ⟨#[], args, []⟩) f ⟨#[], args, []⟩ = true)
    (hrow : s.preRow enc C.prog fn conds apart laid (w0.forCall (fun _ _ => 0) ⟨#[], args, []⟩).memory args) :
    ∃ (w : World) (tape : Tape) (i : Input), w.os = os ∧ (w.forCall tape i).Shaped C.prog ∧ i.vars = [] ∧ Input.okWide C.prog (w.forCall tape i) .any w.heap.size f i ∧
      s.preRow enc C.prog fn conds apart laid (w.forCall tape i).memory i.args ∧ ({ modest := modest } : Assume).holds C.prog (lone (Frame.enter C.prog f i.args .normal) [] (w.forCall tape i)) := witness_row_atRef modest w0 args hos hv hr hok hrow
theorem Lm_met (os : Os) (args : Array Value) : laidMetH Tryz.prog [("unicode/utf8.acceptRanges", Rows.laid_unicode_utf8_acceptRanges), ("unicode/utf8.first", Rows.laid_unicode_utf8_first)] ((LmWorld os).forCall (fun _ _ => 0) ⟨#[], args, []⟩).memory := by
  rw [MakeChecks.laidMetH_plain _ _ _ (by kernel_rfl)]
  exact laidMet_of_run' 8 (by kernel_rfl) (by kernel_rfl)
end Go.Proofs.YtbaojbheopcjhaaGreatDoor
