/- FnExactScriptText: the program's ScriptText returns what the reference's returns, for all arguments. Conditions: the card's listed tables, as it ties them. -/
import Derived.Test.YtojmikalnalfbaaDoorLdC
import Derived.Test.YtojmikalnalfbaaDoorTxJC
namespace Go.Proofs.YtojmikalnalfbaaDoor
open Go.ChangeShapes Go.WideShapes Go.ChangeAt Go.RowKit
namespace ScriptText
set_option maxHeartbeats 8000000 in
theorem walk (w : World) (A : Option Addr) (n c : Nat) (fs : List Flt) (h : RE encF 4 w w.heap.size A n fs) (_ : ∀ i, i < n → I64 (ge fs i).kd ∧ I64 (ge fs i).pos ∧ I64 (ge fs i).len ∧ I64 (ge fs i).val) (hm : n ≤ maxLen) (ht : TB w) :
    Calls Tryd.prog 4 #[.slice A n c] w fun e w' => e = .returned (.bool true) ∧ Below w.heap.size w w' := by
  by_cases hs : n ≤ 1048576
  case neg =>
    go_enter Tryd.func4, Tryd.ntmps4
    go_wp2_with fail
    refine (szFaultS_any _ n _ 1048576 _ hm (by omega) (by omega)).mono ?_
    rw [szF_neg hs]
    rintro e w' ⟨rfl, rfl⟩
    go_wp2
    go_ret
    exact ⟨rfl, by go_grown⟩
  have hn : n ≤ 1099511627776 := by omega
  obtain ⟨T, hT⟩ : ∃ T, (⟨(stxt fs).toArray⟩ : ByteArray) = T := ⟨_, rfl⟩
  have HT := Lib.hid hT
  have TT := Lib.hid ht
  have B := Lib.hid (Below.refl w.heap.size w)
  clear ht hT
  go_enter Tryd.func4, Tryd.ntmps4
  go_wp2_with fail
  refine (szFaultS_any _ n _ 1048576 _ hm (by omega) (by omega)).mono ?_
  rw [szF_pos hs]
  rintro e w' ⟨rfl, rfl⟩
  clear hm
  go_wp2_with fail
  refine (toFaultS_any _ n _ fs _ h hn).mono ?_
  rintro e w1 ⟨A1, c1, rfl, o1, hb⟩
  replace B := Lib.hid (below_next hb B.out (Nat.le_refl _)); replace TT := Lib.hid (TT.out.up hb)
  have h1 := h.up hb
  clear hb
  go_wp2_with fail
  refine (sScriptText_any _ n _ fs _ (o1.reads encF_len) hn).mono ?_
  rw [HT.out]
  rintro e w2 ⟨rfl, hb⟩
  replace B := Lib.hid (below_next hb B.out (Nat.le_refl _)); replace TT := Lib.hid (TT.out.up hb)
  have h2 := h1.up hb
  clear hb h1 o1
  go_wp2_with fail
  refine (toFaultS_any _ n _ fs _ h2 hn).mono ?_
  rintro e w3 ⟨A3, c3, rfl, o3, hb⟩
  replace B := Lib.hid (below_next hb B.out (Nat.le_refl _)); replace TT := Lib.hid (TT.out.up hb)
  have h3 := h2.up hb
  have r3 := o3.reads encF_len
  clear hb h2 o3
  go_wp2_with fail
  refine (iScriptText_any _ n _ fs _ r3 hn TT.out).mono ?_
  rw [HT.out]
  rintro e w4 ⟨rfl, hb⟩
  replace B := Lib.hid (below_next hb B.out (Nat.le_refl _))
  have h4 := h3.up hb
  have r4 := r3.up hb
  clear hb h3 r3 TT
  go_wp2_with fail
  refine (toFaultS_any _ n _ fs _ h4 hn).mono ?_
  rintro e w5 ⟨A5, c5, rfl, o5, hb⟩
  replace B := Lib.hid (below_next hb B.out (Nat.le_refl _))
  have r5 := r4.up hb
  have s5 := o5.reads encF_len
  clear hb h4 r4 o5
  go_wp2_with fail
  refine (eqFaultS_self _ _ n n _ _ fs _ r5 s5 (by omega)).mono ?_
  rintro e w6 ⟨rfl, hb⟩
  replace B := Lib.hid (below_next hb B.out (Nat.le_refl _))
  clear hb
  go_wp2_with fail
  go_ret
  exact ⟨rfl, B.out⟩

set_option maxRecDepth 100000 in
theorem contract (H : Type) (enc : TypeId × Value → H) (W : World) (base : Nat) (args : Array Value) (ds gs : List (DataW H)) (before : List MemPlace)
    (hval : ∀ (j : Nat) t v, Tryd.f4.params[j]? = some t → args[j]? = some v → Value.okWide Tryd.prog W .any base t v)
    (hW : DataW.Whole enc Tryd.prog Tryd.f4.params.toList Rows.fnExactScriptTextSpec.vars false W args.toList ds gs before) (hL : laidMetH Tryd.prog Rows.fnExactScriptTextRow.laid W) (hsh : W.ShapedOpen Tryd.prog) :
    Calls Tryd.prog 4 args W fun e W' => ∃ v, e = .returned v ∧ Rows.fnExactScriptTextSpec.post enc Tryd.prog Tryd.f4 false true false false W args v W' := by
  have hW' := hW
  obtain ⟨p, q, hA0, hV, rfl, hfz, hnd⟩ := hW
  have hA : DataW.TrodAll enc Tryd.prog W 0 (fun _ => true) true Tryd.f4.params.toList args.toList ds p := hA0
  rw [Tryd.params4] at hA hval
  obtain ⟨v0, vs0, d0, ds0, p0, q0, hargs, rfl, rfl, h0, r0⟩ := trodAll_cons hA
  obtain ⟨rfl, rfl, rfl⟩ := trodAll_nil r0
  obtain rfl : args = #[v0] := by cases args; simp_all
  obtain ⟨A0, n0, c0, fs0, rfl, hr0, hi0, hn0⟩ := arg_faults Tryd.underlying28 Tryd.underlying23 (by kernel_rfl) ⟨rfl, rfl⟩ ⟨rfl, rfl⟩ ⟨rfl, rfl⟩ ⟨rfl, rfl⟩ Tryd.underlying2 (by kernel_rfl) (hval 0 28 v0 rfl rfl) h0
  refine (walk W A0 n0 c0 fs0 hr0 hi0 hn0 (Ld_table hL hsh)).mono fun e W' ⟨he, hb⟩ => ?_
  subst he
  exact ⟨_, rfl, law_post laidOut (by
    rw [show Tryd.f4.params.toList = [28] from rfl]
    intro t ht
    rw [List.mem_singleton.1 ht]; exact ⟨by kernel_rfl, of_decide_eq_true (by kernel_rfl)⟩) rfl Tryd.underlying4 rfl rfl hW' hb⟩

theorem laid_met (os : Os) : laidMetH Tryd.prog Rows.fnExactScriptTextRow.laid ((LdWorld os).forCall (fun _ _ => 0) ⟨#[], #[.slice none 0 0], []⟩).memory :=
  Ld_met os _
theorem reads (os : Os) {H : Type} (enc : TypeId × Value → H) : ∃ places, DataW.whole enc Tryd.prog ((LdWorld os).forCall (fun _ _ => 0) ⟨#[], #[.slice none 0 0], []⟩).memory Tryd.f4.params.toList Rows.fnExactScriptTextSpec.vars false #[(.slice none 0 0 : Value)].toList 8 = some ([.nil], [], places) :=
  ⟨[], by kernel_rfl⟩

set_option maxRecDepth 100000 in
theorem lifted (os : Os) (started : os.Started) (H : Type) (enc : TypeId × Value → H) (F : Stop.Interp) :
    ReturnsInHanded {} Tryd.checked os 4 .any ((OpenSpec.ofChange Rows.fnExactScriptTextSpec).preRow enc Tryd.prog Tryd.f4 Rows.fnExactScriptTextRow.domain false Rows.fnExactScriptTextRow.laid) (((OpenSpec.ofChange Rows.fnExactScriptTextSpec).at F).post enc Tryd.prog Tryd.f4 false true false false) := by
  obtain ⟨places, hx⟩ := reads os enc
  refine returnsInHanded_of_row (C := Tryd.checked) (s := OpenSpec.ofChange Rows.fnExactScriptTextSpec) own started (by kernel_rfl) Tryd.func4
    (Ld_witness (enc := enc) (C := Tryd.checked) false (LdWorld os) #[.slice none 0 0] rfl (by kernel_rfl) (by kernel_rfl) (by kernel_rfl)
      (OpenSpec.preRow_of_cond 8 hx (by kernel_rfl) (fun k hk => by cases hk) (by kernel_rfl) (laid_met os))) ?_
  intro W base args ds gs before hval hW _ _ _ hL hsh _
  exact contract H enc W base args ds gs before hval hW hL hsh

theorem said : Rows.FnExactScriptTextSaid :=
  OpenClaim.holds_of_cond 4 Tryd.f4 rfl rfl rfl rfl rfl rfl rfl ⟨rfl, rfl, rfl, rfl, rfl⟩ rfl rfl rfl rfl rfl (by kernel_rfl) Tryd.func4 (by kernel_rfl)
    (of_decide_eq_true (by kernel_rfl)) (by unfold Func.isWrapper; first | (rw [if_pos (by decide +kernel)]; kernel_rfl) | (rw [if_neg (by decide +kernel)]; exact ⟨rfl, rfl⟩))
    (fun os started H enc _ F => by rw [OpenClaim.pre_eq_preRow]; exact lifted os started H enc F)

theorem plain (f : FuncId) (fn : Func) (hf : Tryd.pinned.checked.prog.funcNamed Rows.fnExactScriptTextRow.func = some f) (hfn : Tryd.pinned.checked.prog.funcs[f]? = some fn) :
    true = Tryd.pinned.checked.prog.looks [] ∧ ∀ (j : Nat) t, fn.params[j]? = some t → Tryd.pinned.checked.prog.wantsStandIn t = false := by
  obtain rfl : f = 4 := Option.some.inj ((show Tryd.prog.funcNamed Rows.fnExactScriptTextRow.func = some 4 by kernel_rfl).symm.trans hf) |>.symm
  obtain rfl : fn = Tryd.f4 := (Option.some.inj (Tryd.func4.symm.trans hfn)).symm
  refine ⟨by kernel_rfl, fun j t ht => ?_⟩
  rw [Tryd.params4] at ht
  obtain rfl : t = 28 := by simpa using Array.mem_of_getElem? ht
  exact (show Tryd.prog.wantsStandIn 28 = false by kernel_rfl)

theorem card : Rows.FnExactScriptTextCardSaid :=
  Claim7.holds_tied_plain_at .later [] _ _ _ _ said (fun _ h => by cases h) (by kernel_rfl) (fun _ h => by cases h) fnExactScriptText_row_tie rfl ⟨rfl, rfl⟩ (by kernel_rfl) rfl plain (by kernel_rfl)
end ScriptText
end Go.Proofs.YtojmikalnalfbaaDoor
