/- FnExactReadScript: the program's ReadScript returns what the reference's returns, for all arguments. Conditions: the card's listed variables, as it ties them. -/
import Derived.Test.YtojmikalnalfbaaDoorLeC
import Derived.Test.YtojmikalnalfbaaDoorTxQC
import Derived.Test.YtojmikalnalfbaaDoorTxWC
namespace Go.Proofs.YtojmikalnalfbaaDoor
open Go.ChangeShapes Go.WideShapes Go.ChangeAt Go.RowKit
namespace ReadScript
theorem rdS_len (s : List UInt8) : (rdS s).1.length ≤ 30 := by
  rcases rdS_cases s with ⟨fs, h1, _, h3⟩ | ⟨_, h3⟩
  · rw [h3]; exact isScr_len h1
  · rw [h3]; simp
set_option maxHeartbeats 8000000 in
theorem walk (w : World) (s : ByteArray) (hm : s.size ≤ maxLen) (hl : LF w) :
    Calls Tryd.prog 6 #[.string s] w fun e w' => e = .returned (.bool true) ∧ Below w.heap.size w w' := by
  have hm2 := hm
  clear hm
  by_cases hs : s.size ≤ 1048576
  case neg =>
    have hq : (1048576 : Int) < (s.size : Int) := by omega
    clear hm2 hl
    go_enter Tryd.func6, Tryd.ntmps6
    go_wp2
    go_ret
    exact ⟨rfl, by go_grown⟩
  have hq : ¬ (1048576 : Int) < (s.size : Int) := by omega
  have hRl0 := rdS_len s.data.toList
  obtain ⟨r, hr⟩ : ∃ r, rdS s.data.toList = r := ⟨_, rfl⟩
  obtain ⟨R, q⟩ := r
  rw [hr] at hRl0
  have hRl : R.length ≤ 30 := hRl0
  have HR := Lib.hid hr
  have HL := Lib.hid hl
  clear hr hl hm2 hRl0
  go_enter Tryd.func6, Tryd.ntmps6
  have hB0 : Below w.heap.size w w := Below.refl _ _
  go_wp2_with fail
  refine (sReadScript_any s _ hs).mono ?_
  rw [HR.out]
  rintro e w1 ⟨As, ns, cs, rfl, hs1, hb1⟩
  have hB1 := below_next hb1 hB0 (Nat.le_refl _)
  have rs := Lib.hid (OwnE.row hs1)
  go_wp2_with fail
  refine (iReadScript_any s _ hs (HL.out.up hB1)).mono ?_
  rw [HR.out]
  rintro e w2 ⟨Ag, ng, cg, rfl, hg, hb2⟩
  have hB2 := below_next hb2 hB1 (Nat.le_refl _)
  have hs1 := hs1.below hb2
  have rg := Lib.hid (OwnE.row hg)
  have hlg : ng ≤ 1099511627776 := by rw [← hg.len]; exact Nat.le_trans hRl (by omega)
  have BZ_g := hB1.size
  have SZ_s_g : w1.heap.size ≤ w1.heap.size := Nat.le_refl _
  go_wp2_with fail
  refine (eqFaultS_self _ _ _ _ _ _ R _ (hg.reads encF_len) (hs1.reads encF_len) hlg).mono ?_
  rintro e w3 ⟨rfl, hb3⟩
  have hB3 := below_next hb3 hB2 (Nat.le_refl _)
  have hs1 := hs1.below hb3
  have hg := hg.below hb3
  go_wp2_with fail
  refine (markFaultS_any _ _ _ _ R 1 _ hg hlg (by omega) (by omega)).mono ?_
  rintro e w5 ⟨rfl, hmg, hg5⟩
  have hs1 := hs1.kept hg5 (apartE_lo rs.out rg.out SZ_s_g)
  have hB5 := hB3.grown hg5 hB3.size (fun g e => Nat.le_trans BZ_g (rg.out g e).1)
  go_wp2_with fail
  refine (heldFaultS_any _ _ _ 1 _ (hmg.reads encF_len) hlg (by omega) (by omega)).mono ?_
  rintro e w6 ⟨rfl, hb6⟩
  have hB6 := below_next hb6 hB5 (Nat.le_refl _)
  have hs1 := hs1.below hb6
  have hmg := hmg.below hb6
  go_wp2_with fail
  refine (iReadScript_any s _ hs (HL.out.up hB6)).mono ?_
  rw [HR.out]
  rintro e w7 ⟨Az, nz, cz, rfl, hz, hb7⟩
  have hB7 := below_next hb7 hB6 (Nat.le_refl _)
  have hs1 := hs1.below hb7
  have hmg := hmg.below hb7
  have hlz : nz ≤ 1099511627776 := by rw [← hz.len]; exact Nat.le_trans hRl (by omega)
  go_wp2_with fail
  refine (eqFaultS_self _ _ _ _ _ _ R _ (hz.reads encF_len) (hs1.reads encF_len) hlz).mono ?_
  rintro e w8 ⟨rfl, hb8⟩
  have hB8 := below_next hb8 hB7 (Nat.le_refl _)
  have hmg := hmg.below hb8
  go_wp2_with fail
  refine (heldFaultS_any _ _ _ 1 _ (hmg.reads encF_len) hlg (by omega) (by omega)).mono ?_
  rintro e w9 ⟨rfl, hb9⟩
  have hB9 := below_next hb9 hB8 (Nat.le_refl _)
  go_wp2
  go_ret
  exact ⟨rfl, hB9⟩

set_option maxRecDepth 100000 in
theorem contract (H : Type) (enc : TypeId × Value → H) (W : World) (base : Nat) (args : Array Value) (ds gs : List (DataW H)) (before : List MemPlace)
    (hval : ∀ (j : Nat) t v, Tryd.f6.params[j]? = some t → args[j]? = some v → Value.okWide Tryd.prog W .any base t v)
    (hW : DataW.Whole enc Tryd.prog Tryd.f6.params.toList Rows.fnExactReadScriptSpec.vars false W args.toList ds gs before) (hL : laidMetH Tryd.prog Rows.fnExactReadScriptRow.laid W) (hsh : W.ShapedOpen Tryd.prog) :
    Calls Tryd.prog 6 args W fun e W' => ∃ v, e = .returned v ∧ Rows.fnExactReadScriptSpec.post enc Tryd.prog Tryd.f6 false true false false W args v W' := by
  have hW' := hW
  obtain ⟨p, q, hA0, hV, rfl, hfz, hnd⟩ := hW
  have hA : DataW.TrodAll enc Tryd.prog W 0 (fun _ => true) true Tryd.f6.params.toList args.toList ds p := hA0
  rw [Tryd.params6] at hA hval
  obtain ⟨v0, vs0, d0, ds0, p0, q0, hargs, rfl, rfl, h0, r0⟩ := trodAll_cons hA
  obtain ⟨rfl, rfl, rfl⟩ := trodAll_nil r0
  obtain rfl : args = #[v0] := by cases args; simp_all
  obtain ⟨s0, rfl, _, _, ws0⟩ := ChangeMaps.open_string Tryd.underlying9 (hval 0 9 v0 rfl rfl) h0
  refine (walk W s0 ws0 (Le_table hL hsh)).mono fun e W' ⟨he, hb⟩ => ?_
  subst he
  exact ⟨_, rfl, law_post laidOut (by
    rw [show Tryd.f6.params.toList = [9] from rfl]
    intro t ht
    rw [List.mem_singleton.1 ht]; exact ⟨by kernel_rfl, of_decide_eq_true (by kernel_rfl)⟩) rfl Tryd.underlying4 rfl rfl hW' hb⟩

theorem laid_met (os : Os) : laidMetH Tryd.prog Rows.fnExactReadScriptRow.laid ((LeWorld os).forCall (fun _ _ => 0) ⟨#[], #[.string ⟨#[]⟩], []⟩).memory :=
  Le_met os _
theorem reads (os : Os) {H : Type} (enc : TypeId × Value → H) : ∃ places, DataW.whole enc Tryd.prog ((LeWorld os).forCall (fun _ _ => 0) ⟨#[], #[.string ⟨#[]⟩], []⟩).memory Tryd.f6.params.toList Rows.fnExactReadScriptSpec.vars false #[(.string ⟨#[]⟩ : Value)].toList 8 = some ([.lit (.string [])], [], places) :=
  ⟨[], by kernel_rfl⟩

set_option maxRecDepth 100000 in
theorem lifted (os : Os) (started : os.Started) (H : Type) (enc : TypeId × Value → H) (F : Stop.Interp) :
    ReturnsInHanded {} Tryd.checked os 6 .any ((OpenSpec.ofChange Rows.fnExactReadScriptSpec).preRow enc Tryd.prog Tryd.f6 Rows.fnExactReadScriptRow.domain false Rows.fnExactReadScriptRow.laid) (((OpenSpec.ofChange Rows.fnExactReadScriptSpec).at F).post enc Tryd.prog Tryd.f6 false true false false) := by
  obtain ⟨places, hx⟩ := reads os enc
  refine returnsInHanded_of_row (C := Tryd.checked) (s := OpenSpec.ofChange Rows.fnExactReadScriptSpec) own started (by kernel_rfl) Tryd.func6
    (Le_witness (enc := enc) (C := Tryd.checked) false (LeWorld os) #[.string ⟨#[]⟩] rfl (by kernel_rfl) (by kernel_rfl) (by kernel_rfl)
      (OpenSpec.preRow_of_cond 8 hx (by kernel_rfl) (fun k hk => by cases hk) (by kernel_rfl) (laid_met os))) ?_
  intro W base args ds gs before hval hW _ _ _ hL hsh _
  exact contract H enc W base args ds gs before hval hW hL hsh

theorem said : Rows.FnExactReadScriptSaid :=
  OpenClaim.holds_of_cond 6 Tryd.f6 rfl rfl rfl rfl rfl rfl rfl ⟨rfl, rfl, rfl, rfl, rfl⟩ rfl rfl rfl rfl rfl (by kernel_rfl) Tryd.func6 (by kernel_rfl)
    (of_decide_eq_true (by kernel_rfl)) (by unfold Func.isWrapper; first | (rw [if_pos (by decide +kernel)]; kernel_rfl) | (rw [if_neg (by decide +kernel)]; exact ⟨rfl, rfl⟩))
    (fun os started H enc _ F => by rw [OpenClaim.pre_eq_preRow]; exact lifted os started H enc F)

theorem plain (f : FuncId) (fn : Func) (hf : Tryd.pinned.checked.prog.funcNamed Rows.fnExactReadScriptRow.func = some f) (hfn : Tryd.pinned.checked.prog.funcs[f]? = some fn) :
    true = Tryd.pinned.checked.prog.looks [] ∧ ∀ (j : Nat) t, fn.params[j]? = some t → Tryd.pinned.checked.prog.wantsStandIn t = false := by
  obtain rfl : f = 6 := Option.some.inj ((show Tryd.prog.funcNamed Rows.fnExactReadScriptRow.func = some 6 by kernel_rfl).symm.trans hf) |>.symm
  obtain rfl : fn = Tryd.f6 := (Option.some.inj (Tryd.func6.symm.trans hfn)).symm
  refine ⟨by kernel_rfl, fun j t ht => ?_⟩
  rw [Tryd.params6] at ht
  obtain rfl : t = 9 := by simpa using Array.mem_of_getElem? ht
  exact (show Tryd.prog.wantsStandIn 9 = false by kernel_rfl)

theorem card : Rows.FnExactReadScriptCardSaid :=
  Claim7.holds_tied_plain_at .later [] _ _ _ _ said (fun _ h => by cases h) (by kernel_rfl) (fun _ h => by cases h) fnExactReadScript_row_tie rfl ⟨rfl, rfl⟩ (by kernel_rfl) rfl plain (by kernel_rfl)
end ReadScript
end Go.Proofs.YtojmikalnalfbaaDoor
