/- FnExactFaultText: the program's FaultText returns what the reference's returns, for all arguments. Conditions: the card's listed tables, as it ties them. -/
import Derived.Test.YtojmikalnalfbaaDoorLdC
namespace Go.Proofs.YtojmikalnalfbaaDoor
open Go.ChangeShapes Go.WideShapes Go.ChangeAt Go.RowKit
namespace FaultText
set_option maxHeartbeats 4000000 in
theorem walk (w : World) (f : Flt) (_ : I64 f.kd) (_ : I64 f.pos) (_ : I64 f.len) (_ : I64 f.val) (ht : TB w) :
    Calls Tryd.prog 3 #[.agg #[.int .i64 f.kd, .int .i64 f.pos, .int .i64 f.len, .int .i64 f.val]] w fun e w' => e = .returned (.bool true) ∧ Below w.heap.size w w' := by
  obtain ⟨T, hT⟩ : ∃ T, (⟨(ftxt ⟨f.kd, f.pos, f.len, f.val⟩).toArray⟩ : ByteArray) = T := ⟨_, rfl⟩
  have HT := Lib.hid hT
  obtain ⟨u1, hu1⟩ : ∃ X, w.alloc (.cells #[.int .i64 f.kd, .int .i64 f.pos, .int .i64 f.len, .int .i64 f.val] 23) = X := ⟨_, rfl⟩
  have K := Lib.hid (show BlkL u1 w.heap.size 23 [.int .i64 f.kd, .int .i64 f.pos, .int .i64 f.len, .int .i64 f.val] from hu1 ▸ BlkL.new w _ _ rfl)
  have B := Lib.hid (show Below w.heap.size w u1 from hu1 ▸ below_alloc (Below.refl _ _) (Nat.le_refl _) _)
  have TT := Lib.hid (ht.up B.out)
  clear ht hT
  have c0 := K.out.c 0 rfl; have c1 := K.out.c 1 rfl; have c2 := K.out.c 2 rfl; have c3 := K.out.c 3 rfl
  go_enter Tryd.func3, Tryd.ntmps3
  go_wp2_with fail
  refine (toFault_any _ _ _ _ _).mono ?_
  rintro e w1 ⟨rfl, hb⟩
  replace K := Lib.hid (K.out.next hb); replace B := Lib.hid (below_next hb B.out (Nat.le_refl _)); replace TT := Lib.hid (TT.out.up hb)
  clear hb c0 c1 c2 c3 hu1
  go_wp2_with fail
  refine (sFaultText_any _ _ _ _ _).mono ?_
  rw [HT.out]
  rintro e w2 ⟨rfl, hb⟩
  replace K := Lib.hid (K.out.next hb); replace B := Lib.hid (below_next hb B.out (Nat.le_refl _)); replace TT := Lib.hid (TT.out.up hb)
  clear hb
  have c0 := K.out.c 0 rfl; have c1 := K.out.c 1 rfl; have c2 := K.out.c 2 rfl; have c3 := K.out.c 3 rfl
  go_wp2_with fail
  refine (toFault_any _ _ _ _ _).mono ?_
  rintro e w3 ⟨rfl, hb⟩
  replace B := Lib.hid (below_next hb B.out (Nat.le_refl _)); replace TT := Lib.hid (TT.out.up hb)
  clear hb c0 c1 c2 c3 K
  go_wp2_with fail
  refine (iFaultText_any _ _ _ _ _ TT.out).mono ?_
  rw [HT.out]
  rintro e w4 ⟨rfl, hb⟩
  replace B := Lib.hid (below_next hb B.out (Nat.le_refl _))
  clear hb TT
  go_wp2_with fail
  go_ret
  exact ⟨rfl, B.out⟩

set_option maxRecDepth 100000 in
theorem contract (H : Type) (enc : TypeId × Value → H) (W : World) (base : Nat) (args : Array Value) (ds gs : List (DataW H)) (before : List MemPlace)
    (hval : ∀ (j : Nat) t v, Tryd.f3.params[j]? = some t → args[j]? = some v → Value.okWide Tryd.prog W .any base t v)
    (hW : DataW.Whole enc Tryd.prog Tryd.f3.params.toList Rows.fnExactFaultTextSpec.vars false W args.toList ds gs before) (hL : laidMetH Tryd.prog Rows.fnExactFaultTextRow.laid W) (hsh : W.ShapedOpen Tryd.prog) :
    Calls Tryd.prog 3 args W fun e W' => ∃ v, e = .returned v ∧ Rows.fnExactFaultTextSpec.post enc Tryd.prog Tryd.f3 false true false false W args v W' := by
  have hW' := hW
  obtain ⟨p, q, hA0, hV, rfl, hfz, hnd⟩ := hW
  have hA : DataW.TrodAll enc Tryd.prog W 0 (fun _ => true) true Tryd.f3.params.toList args.toList ds p := hA0
  rw [Tryd.params3] at hA hval
  obtain ⟨v0, vs0, d0, ds0, p0, q0, hargs, rfl, rfl, h0, r0⟩ := trodAll_cons hA
  obtain ⟨rfl, rfl, rfl⟩ := trodAll_nil r0
  obtain rfl : args = #[v0] := by cases args; simp_all
  obtain ⟨f0, rfl, wk0, wp0, wl0, wv0⟩ := arg_fault Tryd.underlying23 (by kernel_rfl) (by kernel_rfl) rfl rfl rfl rfl Tryd.underlying2 (hval 0 23 v0 rfl rfl) h0
  refine (walk W f0 wk0 wp0 wl0 wv0 (Ld_table hL hsh)).mono fun e W' ⟨he, hb⟩ => ?_
  subst he
  exact ⟨_, rfl, law_post laidOut (by
    rw [show Tryd.f3.params.toList = [23] from rfl]
    intro t ht
    rw [List.mem_singleton.1 ht]; exact ⟨by kernel_rfl, of_decide_eq_true (by kernel_rfl)⟩) rfl Tryd.underlying4 rfl rfl hW' hb⟩

theorem laid_met (os : Os) : laidMetH Tryd.prog Rows.fnExactFaultTextRow.laid ((LdWorld os).forCall (fun _ _ => 0) ⟨#[], #[.agg #[.int .i64 0, .int .i64 0, .int .i64 0, .int .i64 0]], []⟩).memory :=
  Ld_met os _
theorem reads (os : Os) {H : Type} (enc : TypeId × Value → H) : ∃ places, DataW.whole enc Tryd.prog ((LdWorld os).forCall (fun _ _ => 0) ⟨#[], #[.agg #[.int .i64 0, .int .i64 0, .int .i64 0, .int .i64 0]], []⟩).memory Tryd.f3.params.toList Rows.fnExactFaultTextSpec.vars false #[(.agg #[.int .i64 0, .int .i64 0, .int .i64 0, .int .i64 0] : Value)].toList 8 = some ([.agg [.lit (.int .i64 0), .lit (.int .i64 0), .lit (.int .i64 0), .lit (.int .i64 0)]], [], places) :=
  ⟨[], by kernel_rfl⟩

set_option maxRecDepth 100000 in
theorem lifted (os : Os) (started : os.Started) (H : Type) (enc : TypeId × Value → H) (F : Stop.Interp) :
    ReturnsInHanded {} Tryd.checked os 3 .any ((OpenSpec.ofChange Rows.fnExactFaultTextSpec).preRow enc Tryd.prog Tryd.f3 Rows.fnExactFaultTextRow.domain false Rows.fnExactFaultTextRow.laid) (((OpenSpec.ofChange Rows.fnExactFaultTextSpec).at F).post enc Tryd.prog Tryd.f3 false true false false) := by
  obtain ⟨places, hx⟩ := reads os enc
  refine returnsInHanded_of_row (C := Tryd.checked) (s := OpenSpec.ofChange Rows.fnExactFaultTextSpec) own started (by kernel_rfl) Tryd.func3
    (Ld_witness (enc := enc) (C := Tryd.checked) false (LdWorld os) #[.agg #[.int .i64 0, .int .i64 0, .int .i64 0, .int .i64 0]] rfl (by kernel_rfl) (by kernel_rfl) (by kernel_rfl)
      (OpenSpec.preRow_of_cond 8 hx (by kernel_rfl) (fun k hk => by cases hk) (by kernel_rfl) (laid_met os))) ?_
  intro W base args ds gs before hval hW _ _ _ hL hsh _
  exact contract H enc W base args ds gs before hval hW hL hsh

theorem said : Rows.FnExactFaultTextSaid :=
  OpenClaim.holds_of_cond 3 Tryd.f3 rfl rfl rfl rfl rfl rfl rfl ⟨rfl, rfl, rfl, rfl, rfl⟩ rfl rfl rfl rfl rfl (by kernel_rfl) Tryd.func3 (by kernel_rfl)
    (of_decide_eq_true (by kernel_rfl)) (by unfold Func.isWrapper; first | (rw [if_pos (by decide +kernel)]; kernel_rfl) | (rw [if_neg (by decide +kernel)]; exact ⟨rfl, rfl⟩))
    (fun os started H enc _ F => by rw [OpenClaim.pre_eq_preRow]; exact lifted os started H enc F)

theorem plain (f : FuncId) (fn : Func) (hf : Tryd.pinned.checked.prog.funcNamed Rows.fnExactFaultTextRow.func = some f) (hfn : Tryd.pinned.checked.prog.funcs[f]? = some fn) :
    true = Tryd.pinned.checked.prog.looks [] ∧ ∀ (j : Nat) t, fn.params[j]? = some t → Tryd.pinned.checked.prog.wantsStandIn t = false := by
  obtain rfl : f = 3 := Option.some.inj ((show Tryd.prog.funcNamed Rows.fnExactFaultTextRow.func = some 3 by kernel_rfl).symm.trans hf) |>.symm
  obtain rfl : fn = Tryd.f3 := (Option.some.inj (Tryd.func3.symm.trans hfn)).symm
  refine ⟨by kernel_rfl, fun j t ht => ?_⟩
  rw [Tryd.params3] at ht
  obtain rfl : t = 23 := by simpa using Array.mem_of_getElem? ht
  exact (show Tryd.prog.wantsStandIn 23 = false by kernel_rfl)

theorem card : Rows.FnExactFaultTextCardSaid :=
  Claim7.holds_tied_plain_at .later [] _ _ _ _ said (fun _ h => by cases h) (by kernel_rfl) (fun _ h => by cases h) fnExactFaultText_row_tie rfl ⟨rfl, rfl⟩ (by kernel_rfl) rfl plain (by kernel_rfl)
end FaultText
end Go.Proofs.YtojmikalnalfbaaDoor
