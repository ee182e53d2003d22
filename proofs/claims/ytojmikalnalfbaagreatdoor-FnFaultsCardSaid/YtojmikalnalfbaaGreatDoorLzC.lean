/- What the listed variables of the great door's rows give the walks, and a world that holds them. Conditions: none. -/
import Derived.Test.YtojmikalnalfbaaGreatDoorCards
import Derived.Test.YtojmikalnalfbaaGreatDoorTie
import Derived.Test.YtojmikalnalfbaaGreatDoorB2
import Derived.Deep.DeepHandedRow
import Derived.Lib.LaidTab
import Derived.Stop.LaidErr
import Derived.MakeChecks
import Derived.WalkKit
import Derived.ProofKit
import Derived.OpenShut
import Derived.Test.YtojmikalnalfbaaGreatDoorTxIC
import Derived.LaidMore
import Derived.Deep.DeepWitnessRowRef
import Derived.LaidLaws
import Derived.RowKitTokens
namespace Go.Proofs.YtojmikalnalfbaaGreatDoor
open Go.ChangeShapes Go.WideShapes Go.ChangeAt Go.RowKit

theorem gPow : Tryz.prog.globalNamed "internal/strconv.uint64pow10" = some 1 := by kernel_rfl
theorem gPowType : (Tryz.prog.globals[1]?).map (·.type) = some 125 := by kernel_rfl
theorem cellsPow : Tryz.prog.cellsOf 125 = 20 := by kernel_rfl
theorem cellsU64 : Tryz.prog.cellsOf 108 = 1 := by kernel_rfl
theorem powData : (Rows.laid_internal_strconv_uint64pow10 : DataW Unit) = Lib.tabData .u64 Lib.pow10Tab := by kernel_rfl
def setCells (cs : Array Value) : Obj → Obj | .cells _ t z => .cells cs t z | o => o
theorem var?_below {P : Program} {w w' : World} {n : String} {cs : Array Value} (h : w.var? P n = some cs) (hb : Below w.heap.size w w') : w'.var? P n = some cs := by
  unfold World.var? at *
  cases hg : P.globalNamed n with
  | none => simp [hg] at h
  | some g =>
    simp only [hg, Option.bind_some] at h ⊢
    have hlt : g < w.heap.size := by
      rcases Nat.lt_or_ge g w.heap.size with h' | h'
      · exact h'
      · rw [Array.getElem?_eq_none h'] at h; simp at h
    rw [hb.block g hlt]
    exact h
theorem gSyn : Tryz.prog.globalNamed "strconv.ErrSyntax" = some 2 := by kernel_rfl
theorem gSynType : (Tryz.prog.globals[2]?).map (·.type) = some 94 := by kernel_rfl
theorem gRng : Tryz.prog.globalNamed "strconv.ErrRange" = some 3 := by kernel_rfl
theorem gRngType : (Tryz.prog.globals[3]?).map (·.type) = some 94 := by kernel_rfl
theorem cellsErr : Tryz.prog.cellsOf 153 = 1 := by kernel_rfl
theorem cellsStr : Tryz.prog.cellsOf 9 = 1 := by kernel_rfl
theorem starErr : "*" ++ "errors.errorString" = "*errors.errorString" := by decide
theorem rowErr (u : TypeId) (h : Tryz.prog.typeName? 3 u = some "*errors.errorString") : u = 151 :=
  typeName_ptr_named (nm := "errors.errorString") (by rw [starErr]; kernel_rfl) (by kernel_rfl) (by decide) u (by rw [starErr]; exact h)

theorem Lz_table {W : World} (h : laidMetH Tryz.prog Rows.fnFaultsRow.laid W) (hsh : W.ShapedOpen Tryz.prog) : LF W := by
  have h2 : laidMet Tryz.prog Rows.fnFaultsRow.laid W := by rw [← MakeChecks.laidMetH_plain _ _ _ (by kernel_rfl)]; exact h
  have h3 := laidMet.tail (laidMet.tail h2)
  have h4 : laidMet Tryz.prog (("internal/strconv.uint64pow10", Rows.laid_internal_strconv_uint64pow10) :: _) W := h3
  rw [powData] at h4
  have h5 := laidMet.tail (laidMet.tail h3)
  obtain ⟨a1, s1, hv1, _⟩ := laid_sentinel h5 gRng gRngType Tryz.underlying94 rowErr Tryz.underlying151 Tryz.underlying153 rfl rfl Tryz.underlying9 cellsErr cellsStr
  obtain ⟨a2, s2, hv2, _⟩ := laid_sentinel (laidMet.tail h5) gSyn gSynType Tryz.underlying94 rowErr Tryz.underlying151 Tryz.underlying153 rfl rfl Tryz.underlying9 cellsErr cellsStr
  obtain ⟨m, hm⟩ : ∃ m, W.cell? ⟨0, 0, none⟩ = some (.int .i64 m) := Go.Proofs.cell_of_shapedOpen_int (zero := #[.int .i64 0]) (t := 3) hsh (of_decide_eq_true (by kernel_rfl)) (by kernel_rfl) rfl (by kernel_rfl) (by kernel_rfl) Tryz.underlying3
  refine ⟨Lib.tabBelow_of_tabIs (Lib.tabIs_of_head gPow gPowType Tryz.underlying125 Tryz.underlying108 cellsU64 cellsPow h4), fun w' hb => ⟨⟨_, _, var?_below hv2 hb⟩, ⟨_, _, var?_below hv1 hb⟩, m, ?_⟩⟩
  exact (hb.cell (p := ⟨0, 0, none⟩) (World.block_lt_of_cell? W _ hm)).trans hm
noncomputable def LzWorld (os : Os) : World :=
  { World.doorLaid Tryz.prog 72 os with heap := (World.doorLaid Tryz.prog 72 os).heap.modify 4 (setCells (Go.Pinned.utf8FirstZ.map fun z : Nat => Value.int .u8 (z : Int)).toArray) }
theorem Lz_witness {H : Type} {enc : TypeId × Value → H} {C : Checked} {os : Os} {f : FuncId} {fn : Func} {s : OpenSpec} {conds : List PathCond} {apart : Bool} {laid : List (String × DataW Unit)} (modest : Bool) (w0 : World) (args : Array Value) (hos : w0.os = os)
    (hv : (w0.forCall (fun _ _ => 0) ⟨#[], args, []⟩).variablesRefB C.prog = true)
    (hr : ((w0.forCall (fun _ _ => 0) ⟨#[], args, []⟩).heap.toList.drop C.prog.globals.size).take ((begin C.prog (fun _ _ => 0) default).world.heap.size - C.prog.globals.size) =
      (begin C.prog (fun _ _ => 0) default).world.heap.toList.drop C.prog.globals.size)
    (hok : Input.okWideB C.prog (w0.forCall (fun _ _ => 0) ⟨#[], args, []⟩) f ⟨#[], args, []⟩ = true)
    (hrow : s.preRow enc C.prog fn conds apart laid (w0.forCall (fun _ _ => 0) ⟨#[], args, []⟩).memory args) :
    ∃ (w : World) (tape : Tape) (i : Input), w.os = os ∧ (w.forCall tape i).Shaped C.prog ∧ i.vars = [] ∧ Input.okWide C.prog (w.forCall tape i) .any w.heap.size f i ∧
      s.preRow enc C.prog fn conds apart laid (w.forCall tape i).memory i.args ∧ ({ modest := modest } : Assume).holds C.prog (lone (Frame.enter C.prog f i.args .normal) [] (w.forCall tape i)) := witness_row_atRef modest w0 args hos hv hr hok hrow
theorem Lz_met (os : Os) (args : Array Value) : laidMetH Tryz.prog Rows.fnFaultsRow.laid ((LzWorld os).forCall (fun _ _ => 0) ⟨#[], args, []⟩).memory := by
  rw [MakeChecks.laidMetH_plain _ _ _ (by kernel_rfl)]
  exact laidMet_of_run' 8 (by kernel_rfl) (by kernel_rfl)
end Go.Proofs.YtojmikalnalfbaaGreatDoor
