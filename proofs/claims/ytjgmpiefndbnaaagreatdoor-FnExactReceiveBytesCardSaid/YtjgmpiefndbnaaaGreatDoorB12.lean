/- Walks, laws and small notions for the claims of this seat, several texts as one (RowM, Lm). Conditions: as each theorem states them. -/
import Derived.Test.YtjgmpiefndbnaaaGreatDoorB4
import Derived.Test.YtjgmpiefndbnaaaGreatDoorCards
import Derived.Test.YtjgmpiefndbnaaaGreatDoorTie
import Derived.Deep.DeepHandedRow
import Derived.Lib.LaidTab
import Derived.Stop.LaidErr
import Derived.MakeChecks
import Derived.WalkKit
import Derived.ProofKit
import Derived.OpenShut
import Derived.LaidMore
import Derived.Deep.DeepWitnessRowRef
import Derived.LaidLaws
import Derived.RowKitTokens
namespace Go.Proofs.YtjgmpiefndbnaaaGreatDoor
open Go.ChangeShapes Go.WideShapes Go.ChangeAt Go.RowKit

theorem array4 {α : Type} {cs : Array α} (h : cs.size = 4) : ∃ a b c d, cs = #[a, b, c, d] := by
  obtain ⟨l⟩ := cs
  match l, h with
  | [a, b, c, d], _ => exact ⟨a, b, c, d, rfl⟩
theorem array5 {α : Type} {cs : Array α} (h : cs.size = 5) : ∃ a b c d e, cs = #[a, b, c, d, e] := by
  obtain ⟨l⟩ := cs
  match l, h with
  | [a, b, c, d, e], _ => exact ⟨a, b, c, d, e, rfl⟩
theorem array8 {α : Type} {cs : Array α} (h : cs.size = 8) : ∃ a b c d e f g k, cs = #[a, b, c, d, e, f, g, k] := by
  obtain ⟨l⟩ := cs
  match l, h with
  | [a, b, c, d, e, f, g, k], _ => exact ⟨a, b, c, d, e, f, g, k, rfl⟩
theorem cellsMedl : Tryz.prog.cellsOf 26 = 4 := by kernel_rfl
theorem cellsState : Tryz.prog.cellsOf 28 = 5 := by kernel_rfl
theorem cellsFrame : Tryz.prog.cellsOf 58 = 8 := by kernel_rfl
/-- what an argument that is a schedule brings -/
structure MX (W : World) (m : Mdv) (M : Mdl) : Prop where
  id : M.id = m.id
  rn : RE encNd 4 W W.heap.size m.An m.nn M.ns
  rm : RM W W.heap.size m.Am m.nm M.ms
  rs : RE encSl 8 W W.heap.size m.As m.ns M.ss
  bn : m.nn ≤ maxLen
  bm : m.nm ≤ maxLen
  bs : m.ns ≤ maxLen
  nm : ∀ i, i < m.nn → (ge M.ns i).nm.size ≤ maxLen
  i : I64 m.id
  qn : ∀ i, i < m.nn → (ge M.ns i).wf
  qm : ∀ i, i < m.nm → (ge M.ms i).wf
  qs : ∀ i, i < m.ns → (ge M.ss i).wf

section
variable {H : Type} {enc : TypeId × Value → H} {W : World} {base : Nat} {r : Reach} {v : Value} {d : DataW H} {p : List MemPlace}
set_option maxRecDepth 100000 in
theorem arg_medl (hv : Value.okWide Tryz.prog W r base 26 v) (h : DataW.Trod enc Tryz.prog W 0 (fun _ => true) true 26 v d p) :
    ∃ (m : Mdv) (M : Mdl), v = .agg #[.int .i64 m.id, .slice m.An m.nn m.cn, .slice m.Am m.nm m.cm, .slice m.As m.ns m.cs] ∧ MX W m M := by
  obtain ⟨cs, rfl, hsz⟩ := okWide_struct Tryz.underlying26 hv
  obtain ⟨c0, c1, c2, c3, rfl⟩ := array4 (hsz.trans cellsMedl)
  obtain ⟨fuel, hf⟩ := h
  obtain ⟨xs, n1, _, _, _, hl1, h1⟩ := DataW.trod_struct Tryz.underlying26 hf
  have hx0 : DataW.trod enc Tryz.prog W 0 (fun _ => true) true _ 2 [c0] = xs[0]? := h1 0 _ rfl
  have hx1 : DataW.trod enc Tryz.prog W 0 (fun _ => true) true _ 22 [c1] = xs[1]? := h1 1 _ rfl
  have hx2 : DataW.trod enc Tryz.prog W 0 (fun _ => true) true _ 23 [c2] = xs[2]? := h1 2 _ rfl
  have hx3 : DataW.trod enc Tryz.prog W 0 (fun _ => true) true _ 24 [c3] = xs[3]? := h1 3 _ rfl
  rw [List.getElem?_eq_getElem (by rw [hl1]; simp)] at hx0 hx1 hx2 hx3
  obtain ⟨a0, rfl, w0⟩ := cell_int (u := c0) Tryz.underlying2 hx0
  obtain ⟨An, nn, cn, ns, rfl, rn, qn, bn⟩ := rows_of (en := encNd) (Q := Nd.wf) Tryz.underlying22 (by kernel_rfl)
    (nd_of Tryz.underlying2 (by kernel_rfl) Tryz.underlying9 (by kernel_rfl) Tryz.underlying4 (by kernel_rfl) Tryz.underlying126 ⟨rfl, rfl⟩ ⟨rfl, rfl⟩ ⟨rfl, rfl⟩ ⟨rfl, rfl⟩) (fun e => by simp [encNd]) hx1
  obtain ⟨Am, nm, cm, hs, rfl, rm, qm, bm⟩ := rows_of (en := encMh) (Q := fun e => e.k.wf ∧ RI W W.heap.size e.A e.n e.k.nx ∧ e.n ≤ maxLen) Tryz.underlying23 (by kernel_rfl)
    (mk_of Tryz.underlying2 (by kernel_rfl) Tryz.underlying129 ⟨rfl, rfl⟩ ⟨rfl, rfl⟩ ⟨rfl, rfl⟩ Tryz.underlying29 (by kernel_rfl)) (fun e => by simp [encMh]) hx2
  obtain ⟨As, nq, cq, ss, rfl, rs, qs, bs⟩ := rows_of (en := encSl) (Q := Sl.wf) Tryz.underlying24 (by kernel_rfl)
    (sl_of Tryz.underlying2 (by kernel_rfl) Tryz.underlying4 (by kernel_rfl) Tryz.underlying139 ⟨rfl, rfl⟩ ⟨rfl, rfl⟩ ⟨rfl, rfl⟩ ⟨rfl, rfl⟩ Tryz.underlying137 (by kernel_rfl) ⟨rfl, rfl⟩ ⟨rfl, rfl⟩ ⟨rfl, rfl⟩ ⟨rfl, rfl⟩ ⟨rfl, rfl⟩) (fun e => by simp [encSl]) hx3
  have rm2 := RM.of (es := hs) rm (fun i hi => (qm i hi).2)
  refine ⟨⟨a0, An, nn, cn, Am, nm, cm, As, nq, cq⟩, ⟨a0, ns, hs.map Mh.k, ss⟩, rfl, rfl, rn, rm2, rs, bn, bm, bs, fun i hi => (qn i hi).2.2, w0, qn, fun i hi => ?_, qs⟩
  have hg : ge (hs.map Mh.k) i = (ge hs i).k := by
    have hi' : i < hs.length := by rw [rm.len]; exact hi
    rw [ge_lt (by rw [List.length_map]; exact hi'), ge_lt hi', List.getElem_map]
  show (ge (hs.map Mh.k) i).wf
  rw [hg]
  exact (qm i hi).1
set_option maxRecDepth 100000 in
theorem arg_state (hv : Value.okWide Tryz.prog W r base 28 v) (h : DataW.Trod enc Tryz.prog W 0 (fun _ => true) true 28 v d p) :
    ∃ t md rn sl mb : Int, v = .agg #[.int .i64 t, .int .i64 md, .int .i64 rn, .int .i64 sl, .int .i64 mb] ∧ (I64 t ∧ I64 md ∧ I64 rn ∧ I64 sl ∧ I64 mb) := by
  obtain ⟨cs, rfl, hsz⟩ := okWide_struct Tryz.underlying28 hv
  obtain ⟨c0, c1, c2, c3, c4, rfl⟩ := array5 (hsz.trans cellsState)
  obtain ⟨fuel, hf⟩ := h
  obtain ⟨xs, n1, _, _, _, hl1, h1⟩ := DataW.trod_struct Tryz.underlying28 hf
  have hx0 : DataW.trod enc Tryz.prog W 0 (fun _ => true) true _ 2 [c0] = xs[0]? := h1 0 _ rfl
  have hx1 : DataW.trod enc Tryz.prog W 0 (fun _ => true) true _ 2 [c1] = xs[1]? := h1 1 _ rfl
  have hx2 : DataW.trod enc Tryz.prog W 0 (fun _ => true) true _ 2 [c2] = xs[2]? := h1 2 _ rfl
  have hx3 : DataW.trod enc Tryz.prog W 0 (fun _ => true) true _ 2 [c3] = xs[3]? := h1 3 _ rfl
  have hx4 : DataW.trod enc Tryz.prog W 0 (fun _ => true) true _ 2 [c4] = xs[4]? := h1 4 _ rfl
  rw [List.getElem?_eq_getElem (by rw [hl1]; simp)] at hx0 hx1 hx2 hx3 hx4
  obtain ⟨a0, rfl, w0⟩ := cell_int (u := c0) Tryz.underlying2 hx0
  obtain ⟨a1, rfl, w1⟩ := cell_int (u := c1) Tryz.underlying2 hx1
  obtain ⟨a2, rfl, w2⟩ := cell_int (u := c2) Tryz.underlying2 hx2
  obtain ⟨a3, rfl, w3⟩ := cell_int (u := c3) Tryz.underlying2 hx3
  obtain ⟨a4, rfl, w4⟩ := cell_int (u := c4) Tryz.underlying2 hx4
  exact ⟨a0, a1, a2, a3, a4, rfl, w0, w1, w2, w3, w4⟩
set_option maxRecDepth 100000 in
theorem arg_frame (hv : Value.okWide Tryz.prog W r base 58 v) (h : DataW.Trod enc Tryz.prog W 0 (fun _ => true) true 58 v d p) :
    ∃ (k rq ft fm fd fs fb : Int) (A : Option Addr) (n c : Nat) (zs : List Int), v = .agg #[.int .i64 k, .int .i64 rq, .int .i64 ft, .int .i64 fm, .int .i64 fd, .int .i64 fs, .int .i64 fb, .slice A n c] ∧
      (I64 k ∧ I64 rq ∧ I64 ft ∧ I64 fm ∧ I64 fd ∧ I64 fs ∧ I64 fb) ∧ RI W W.heap.size A n zs ∧ (∀ i, i < n → I64 (gi zs i)) ∧ n ≤ maxLen := by
  obtain ⟨cs, rfl, hsz⟩ := okWide_struct Tryz.underlying58 hv
  obtain ⟨c0, c1, c2, c3, c4, c5, c6, c7, rfl⟩ := array8 (hsz.trans cellsFrame)
  obtain ⟨fuel, hf⟩ := h
  obtain ⟨xs, n1, _, _, _, hl1, h1⟩ := DataW.trod_struct Tryz.underlying58 hf
  have hx0 : DataW.trod enc Tryz.prog W 0 (fun _ => true) true _ 2 [c0] = xs[0]? := h1 0 _ rfl
  have hx1 : DataW.trod enc Tryz.prog W 0 (fun _ => true) true _ 2 [c1] = xs[1]? := h1 1 _ rfl
  have hx2 : DataW.trod enc Tryz.prog W 0 (fun _ => true) true _ 28 [c2, c3, c4, c5, c6] = xs[2]? := h1 2 _ rfl
  have hx3 : DataW.trod enc Tryz.prog W 0 (fun _ => true) true _ 29 [c7] = xs[3]? := h1 3 _ rfl
  rw [List.getElem?_eq_getElem (by rw [hl1]; simp)] at hx0 hx1 hx2 hx3
  obtain ⟨ss, n3, _, _, _, hl3, h3⟩ := DataW.trod_struct Tryz.underlying28 hx2
  have hz0 : DataW.trod enc Tryz.prog W 0 (fun _ => true) true _ 2 [c2] = ss[0]? := h3 0 _ rfl
  have hz1 : DataW.trod enc Tryz.prog W 0 (fun _ => true) true _ 2 [c3] = ss[1]? := h3 1 _ rfl
  have hz2 : DataW.trod enc Tryz.prog W 0 (fun _ => true) true _ 2 [c4] = ss[2]? := h3 2 _ rfl
  have hz3 : DataW.trod enc Tryz.prog W 0 (fun _ => true) true _ 2 [c5] = ss[3]? := h3 3 _ rfl
  have hz4 : DataW.trod enc Tryz.prog W 0 (fun _ => true) true _ 2 [c6] = ss[4]? := h3 4 _ rfl
  rw [List.getElem?_eq_getElem (by rw [hl3]; simp)] at hz0 hz1 hz2 hz3 hz4
  obtain ⟨a0, rfl, w0⟩ := cell_int (u := c0) Tryz.underlying2 hx0
  obtain ⟨a1, rfl, w1⟩ := cell_int (u := c1) Tryz.underlying2 hx1
  obtain ⟨a2, rfl, w2⟩ := cell_int (u := c2) Tryz.underlying2 hz0
  obtain ⟨a3, rfl, w3⟩ := cell_int (u := c3) Tryz.underlying2 hz1
  obtain ⟨a4, rfl, w4⟩ := cell_int (u := c4) Tryz.underlying2 hz2
  obtain ⟨a5, rfl, w5⟩ := cell_int (u := c5) Tryz.underlying2 hz3
  obtain ⟨a6, rfl, w6⟩ := cell_int (u := c6) Tryz.underlying2 hz4
  obtain ⟨A, n, c, zs, rfl, hr, hi, hn⟩ := cell_ints (u := c7) Tryz.underlying29 Tryz.underlying2 (by kernel_rfl) hx3
  exact ⟨a0, a1, a2, a3, a4, a5, a6, A, n, c, zs, rfl, ⟨w0, w1, w2, w3, w4, w5, w6⟩, hr, hi, hn⟩
end
end Go.Proofs.YtjgmpiefndbnaaaGreatDoor

namespace Go.Proofs.YtjgmpiefndbnaaaGreatDoor
open Go.ChangeShapes Go.WideShapes Go.ChangeAt Go.RowKit

def setCells (cs : Array Value) : Obj → Obj | .cells _ t z => .cells cs t z | o => o
noncomputable def LmWorld (os : Os) : World :=
  { World.doorLaid Tryz.prog 72 os with heap := (World.doorLaid Tryz.prog 72 os).heap.modify 0 (setCells (Go.Pinned.utf8FirstZ.map fun z : Nat => Value.int .u8 (z : Int)).toArray) }
theorem Lm_table {l : List (String × DataW Unit)} {W : World} (_ : laidMetH Tryz.prog l W) (_ : W.ShapedOpen Tryz.prog) : True := trivial
theorem Lm_witness {H : Type} {enc : TypeId × Value → H} {C : Checked} {os : Os} {f : FuncId} {fn : Func} {s : OpenSpec} {conds : List PathCond} {apart : Bool} {laid : List (String × DataW Unit)} (modest : Bool) (w0 : World) (args : Array Value) (hos : w0.os = os)
    (hv : (w0.forCall (fun _ _ => 0) ⟨#[], args, []⟩).variablesRefB C.prog = true)
    (hr : ((w0.forCall (fun _ _ => 0) ⟨#[], args, []⟩).heap.toList.drop C.prog.globals.size).take ((begin C.prog (fun _ _ => 0) default).world.heap.size - C.prog.globals.size) =
      (begin C.prog (fun _ _ => 0) default).world.heap.toList.drop C.prog.globals.size)
    (hok : Input.okWideB C.prog (w0.forCall (fun _ _ => 0) ⟨#[], args, []⟩) f ⟨#[], args, []⟩ = true)
    (hrow : s.preRow enc C.prog fn conds apart laid (w0.forCall (fun _ _ => 0) ⟨#[], args, []⟩).memory args) :
    ∃ (w : World) (tape : Tape) (i : Input), w.os = os ∧ (w.forCall tape i).Shaped C.prog ∧ i.vars = [] ∧ Input.okWide C.prog (w.forCall tape i) .any w.heap.size f i ∧
      s.preRow enc C.prog fn conds apart laid (w.forCall tape i).memory i.args ∧ ({ modest := modest } : Assume).holds C.prog (lone (Frame.enter C.prog f i.args .normal) [] (w.forCall tape i)) := witness_row_atRef modest w0 args hos hv hr hok hrow
theorem Lm_met (os : Os) (args : Array Value) : laidMetH Tryz.prog [("unicode/utf8.acceptRanges", Rows.laid_unicode_utf8_acceptRanges), ("unicode/utf8.first", Rows.laid_unicode_utf8_first)] ((LmWorld os).forCall (fun _ _ => 0) ⟨#[], args, []⟩).memory := by
  rw [MakeChecks.laidMetH_plain _ _ _ (by kernel_rfl)]
  exact laidMet_of_run' 8 (by kernel_rfl) (by kernel_rfl)
end Go.Proofs.YtjgmpiefndbnaaaGreatDoor
