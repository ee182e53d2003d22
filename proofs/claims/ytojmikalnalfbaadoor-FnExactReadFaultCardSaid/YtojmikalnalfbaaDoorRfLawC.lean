/- FnExactReadFault: the program's ReadFault returns what the reference's returns, for all arguments. Conditions: the card's listed variables, as it ties them. -/
import Derived.Test.YtojmikalnalfbaaDoorLeC
namespace Go.Proofs.YtojmikalnalfbaaDoor
open Go.ChangeShapes Go.WideShapes Go.ChangeAt Go.RowKit
namespace ReadFault
set_option maxRecDepth 20000 in
set_option maxHeartbeats 8000000 in
theorem walk (w : World) (s : ByteArray) (hm : s.size ≤ maxLen) (hl : LF w) :
    Calls Tryd.prog 5 #[.string s] w fun e w' => e = .returned (.bool true) ∧ Below w.heap.size w w' := by
  have hm2 := hm
  clear hm
  by_cases hs : s.size ≤ 1048576
  case neg =>
    have hq : (1048576 : Int) < (s.size : Int) := by omega
    clear hm2 hl
    go_enter Tryd.func5, Tryd.ntmps5
    go_wp2
    go_ret
    exact ⟨rfl, by go_grown⟩
  have hq : ¬ (1048576 : Int) < (s.size : Int) := by omega
  obtain ⟨r, hr⟩ : ∃ r, rdF s.data.toList = r := ⟨_, rfl⟩
  obtain ⟨⟨k, p, l, v⟩, q⟩ := r
  have HR := Lib.hid hr
  have HL := Lib.hid hl
  clear hr hl hm2
  go_enter Tryd.func5, Tryd.ntmps5
  go_wp2_with fail
  refine (sReadFault_any s _ hs).mono ?_
  rw [HR.out]
  unfold aggR
  rintro e w1 ⟨rfl, hb⟩
  obtain ⟨u1, hu1⟩ : ∃ X, w1.alloc (.cells #[.int .i64 k, .int .i64 p, .int .i64 l, .int .i64 v] 25) = X := ⟨_, rfl⟩
  have K := Lib.hid (show BlkL u1 w1.heap.size 25 [.int .i64 k, .int .i64 p, .int .i64 l, .int .i64 v] from hu1 ▸ BlkL.new w1 _ _ rfl)
  have B := Lib.hid (show Below w.heap.size w u1 from hu1 ▸ below_alloc hb (Nat.le_refl _) _)
  replace HL := Lib.hid (HL.out.up B.out)
  have HU := Lib.hid hu1
  clear hb hu1
  go_wp2_with (rw [HU.out])
  refine (iReadFault_any s _ hs HL.out).mono ?_
  rw [HR.out]
  unfold aggR
  rintro e w2 ⟨rfl, hb⟩
  replace K := Lib.hid (K.out.next hb)
  replace B := Lib.hid (below_next hb B.out (Nat.le_refl _))
  obtain ⟨u2, hu2⟩ : ∃ X, w2.alloc (.cells #[.int .i64 k, .int .i64 p, .int .i64 l, .int .i64 v] 25) = X := ⟨_, rfl⟩
  have K2 := Lib.hid (show BlkL u2 w2.heap.size 25 [.int .i64 k, .int .i64 p, .int .i64 l, .int .i64 v] from hu2 ▸ BlkL.new w2 _ _ rfl)
  replace K := Lib.hid (show BlkL u2 w1.heap.size 25 [.int .i64 k, .int .i64 p, .int .i64 l, .int .i64 v] from hu2 ▸ K.out.alloc _)
  replace B := Lib.hid (show Below w.heap.size w u2 from hu2 ▸ below_alloc B.out (Nat.le_refl _) _)
  have HU2 := Lib.hid hu2
  clear hb hu2 HU HL
  have c0 := K.out.c 0 rfl; have c1 := K.out.c 1 rfl; have c2 := K.out.c 2 rfl; have c3 := K.out.c 3 rfl
  have d0 := K2.out.c 0 rfl; have d1 := K2.out.c 1 rfl; have d2 := K2.out.c 2 rfl; have d3 := K2.out.c 3 rfl
  go_wp2_with (rw [HU2.out])
  refine (eqFault_self _ _ _ _ _).mono ?_
  rintro e w3 ⟨rfl, hb⟩
  replace B := Lib.hid (below_next hb B.out (Nat.le_refl _))
  go_wp2_with fail
  go_ret
  exact ⟨rfl, B.out⟩

set_option maxRecDepth 100000 in
theorem contract (H : Type) (enc : TypeId × Value → H) (W : World) (base : Nat) (args : Array Value) (ds gs : List (DataW H)) (before : List MemPlace)
    (hval : ∀ (j : Nat) t v, Tryd.f5.params[j]? = some t → args[j]? = some v → Value.okWide Tryd.prog W .any base t v)
    (hW : DataW.Whole enc Tryd.prog Tryd.f5.params.toList Rows.fnExactReadFaultSpec.vars false W args.toList ds gs before) (hL : laidMetH Tryd.prog Rows.fnExactReadFaultRow.laid W) (hsh : W.ShapedOpen Tryd.prog) :
    Calls Tryd.prog 5 args W fun e W' => ∃ v, e = .returned v ∧ Rows.fnExactReadFaultSpec.post enc Tryd.prog Tryd.f5 false true false false W args v W' := by
  have hW' := hW
  obtain ⟨p, q, hA0, hV, rfl, hfz, hnd⟩ := hW
  have hA : DataW.TrodAll enc Tryd.prog W 0 (fun _ => true) true Tryd.f5.params.toList args.toList ds p := hA0
  rw [Tryd.params5] at hA hval
  obtain ⟨v0, vs0, d0, ds0, p0, q0, hargs, rfl, rfl, h0, r0⟩ := trodAll_cons hA
  obtain ⟨rfl, rfl, rfl⟩ := trodAll_nil r0
  obtain rfl : args = #[v0] := by cases args; simp_all
  obtain ⟨s0, rfl, _, _, ws0⟩ := ChangeMaps.open_string Tryd.underlying9 (hval 0 9 v0 rfl rfl) h0
  refine (walk W s0 ws0 (Le_table hL hsh)).mono fun e W' ⟨he, hb⟩ => ?_
  subst he
  exact ⟨_, rfl, law_post laidOut (by
    rw [show Tryd.f5.params.toList = [9] from rfl]
    intro t ht
    rw [List.mem_singleton.1 ht]; exact ⟨by kernel_rfl, of_decide_eq_true (by kernel_rfl)⟩) rfl Tryd.underlying4 rfl rfl hW' hb⟩

theorem laid_met (os : Os) : laidMetH Tryd.prog Rows.fnExactReadFaultRow.laid ((LeWorld os).forCall (fun _ _ => 0) ⟨#[], #[.string ⟨#[]⟩], []⟩).memory :=
  Le_met os _
theorem reads (os : Os) {H : Type} (enc : TypeId × Value → H) : ∃ places, DataW.whole enc Tryd.prog ((LeWorld os).forCall (fun _ _ => 0) ⟨#[], #[.string ⟨#[]⟩], []⟩).memory Tryd.f5.params.toList Rows.fnExactReadFaultSpec.vars false #[(.string ⟨#[]⟩ : Value)].toList 8 = some ([.lit (.string [])], [], places) :=
  ⟨[], by kernel_rfl⟩

set_option maxRecDepth 100000 in
theorem lifted (os : Os) (started : os.Started) (H : Type) (enc : TypeId × Value → H) (F : Stop.Interp) :
    ReturnsInHanded {} Tryd.checked os 5 .any ((OpenSpec.ofChange Rows.fnExactReadFaultSpec).preRow enc Tryd.prog Tryd.f5 Rows.fnExactReadFaultRow.domain false Rows.fnExactReadFaultRow.laid) (((OpenSpec.ofChange Rows.fnExactReadFaultSpec).at F).post enc Tryd.prog Tryd.f5 false true false false) := by
  obtain ⟨places, hx⟩ := reads os enc
  refine returnsInHanded_of_row (C := Tryd.checked) (s := OpenSpec.ofChange Rows.fnExactReadFaultSpec) own started (by kernel_rfl) Tryd.func5
    (Le_witness (enc := enc) (C := Tryd.checked) false (LeWorld os) #[.string ⟨#[]⟩] rfl (by kernel_rfl) (by kernel_rfl) (by kernel_rfl)
      (OpenSpec.preRow_of_cond 8 hx (by kernel_rfl) (fun k hk => by cases hk) (by kernel_rfl) (laid_met os))) ?_
  intro W base args ds gs before hval hW _ _ _ hL hsh _
  exact contract H enc W base args ds gs before hval hW hL hsh

theorem said : Rows.FnExactReadFaultSaid :=
  OpenClaim.holds_of_cond 5 Tryd.f5 rfl rfl rfl rfl rfl rfl rfl ⟨rfl, rfl, rfl, rfl, rfl⟩ rfl rfl rfl rfl rfl (by kernel_rfl) Tryd.func5 (by kernel_rfl)
    (of_decide_eq_true (by kernel_rfl)) (by unfold Func.isWrapper; first | (rw [if_pos (by decide +kernel)]; kernel_rfl) | (rw [if_neg (by decide +kernel)]; exact ⟨rfl, rfl⟩))
    (fun os started H enc _ F => by rw [OpenClaim.pre_eq_preRow]; exact lifted os started H enc F)

theorem plain (f : FuncId) (fn : Func) (hf : Tryd.pinned.checked.prog.funcNamed Rows.fnExactReadFaultRow.func = some f) (hfn : Tryd.pinned.checked.prog.funcs[f]? = some fn) :
    true = Tryd.pinned.checked.prog.looks [] ∧ ∀ (j : Nat) t, fn.params[j]? = some t → Tryd.pinned.checked.prog.wantsStandIn t = false := by
  obtain rfl : f = 5 := Option.some.inj ((show Tryd.prog.funcNamed Rows.fnExactReadFaultRow.func = some 5 by kernel_rfl).symm.trans hf) |>.symm
  obtain rfl : fn = Tryd.f5 := (Option.some.inj (Tryd.func5.symm.trans hfn)).symm
  refine ⟨by kernel_rfl, fun j t ht => ?_⟩
  rw [Tryd.params5] at ht
  obtain rfl : t = 9 := by simpa using Array.mem_of_getElem? ht
  exact (show Tryd.prog.wantsStandIn 9 = false by kernel_rfl)

theorem card : Rows.FnExactReadFaultCardSaid :=
  Claim7.holds_tied_plain_at .later [] _ _ _ _ said (fun _ h => by cases h) (by kernel_rfl) (fun _ h => by cases h) fnExactReadFault_row_tie rfl ⟨rfl, rfl⟩ (by kernel_rfl) rfl plain (by kernel_rfl)
end ReadFault
end Go.Proofs.YtojmikalnalfbaaDoor
