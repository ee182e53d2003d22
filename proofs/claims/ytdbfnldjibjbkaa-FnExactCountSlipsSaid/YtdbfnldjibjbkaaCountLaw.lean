/- FnExactCountSlips: the program's CountSlips returns what the reference's returns, for all scripts. Conditions: none. -/
import Derived.Test.YtdbfnldjibjbkaaRow
import Derived.Test.YtdbfnldjibjbkaaHold
import Derived.Test.YtdbfnldjibjbkaaScript
namespace Go.Proofs.Ytdbfnldjibjbkaa
open Go.ChangeShapes Go.WideShapes Go.ChangeAt Go.RowKit
namespace CountSlips
set_option maxHeartbeats 4000000 in
theorem walk (w : World) (A0 : Option Addr) (n0 c0 : Nat) (zs0 : List Flt) (h0 : RE encF 4 w w.heap.size A0 n0 zs0) (_ : ∀ i, i < n0 → I64 (ge zs0 i).kd ∧ I64 (ge zs0 i).pos ∧ I64 (ge zs0 i).len ∧ I64 (ge zs0 i).val) (hm0 : n0 ≤ maxLen) :
    Calls Try.prog 8 #[.slice A0 n0 c0] w fun e w' => e = .returned (.bool true) ∧ Below w.heap.size w w' := by
  unfold maxLen at hm0
  by_cases hs0 : n0 ≤ 1048576
  case neg => go_enter Try.func8, Try.ntmps8; go_wp2_with (go_at_call 35; refine (szFaultS_any _ _ _ _ _ hm0 (by omega) (by omega)).mono ?_; rw [szF_neg hs0]; rintro e w' ⟨rfl, rfl⟩); go_ret; exact ⟨rfl, by go_grown⟩
  clear hm0
  have hn0 : n0 ≤ 1099511627776 := by omega
  obtain ⟨V0, hV0⟩ : ∃ x, val zs0 = x := ⟨_, rfl⟩
  obtain ⟨V1, hV1⟩ : ∃ x, cod zs0 = x := ⟨_, rfl⟩
  have HV0 := Lib.hid hV0
  clear hV0
  have HV1 := Lib.hid hV1
  clear hV1
  go_enter Try.func8, Try.ntmps8
  go_wp2_with fail
  refine (szFaultS_any _ n0 _ 1048576 _ (by unfold maxLen; omega) (by omega) (by omega)).mono ?_
  rw [szF_pos hs0]
  rintro e w' ⟨rfl, rfl⟩
  have hB0 : Below w.heap.size w w := Below.refl _ _
  go_wp2_with fail
  refine (toFaultS_any _ _ _ zs0 _ (h0.up hB0) hn0).mono ?_
  rintro e w1 ⟨At0, ct0, rfl, ht0, hb1⟩
  have hB1 := below_next hb1 hB0 (Nat.le_refl _)
  have rt0 := Lib.hid (OwnE.row ht0)
  go_wp2_with fail
  refine (spec_any _ _ _ zs0 _ (ht0.reads encF_len) hn0).mono ?_
  rw [HV0.out, HV1.out]
  rintro e w2 ⟨rfl, hb2⟩
  have hB2 := below_next hb2 hB1 (Nat.le_refl _)
  have ht0 := ht0.below hb2
  go_wp2_with fail
  refine (toFaultS_any _ _ _ zs0 _ (h0.up hB2) hn0).mono ?_
  rintro e w3 ⟨Ax0, cx0, rfl, hx0, hb3⟩
  have hB3 := below_next hb3 hB2 (Nat.le_refl _)
  have rx0 := Lib.hid (OwnE.row hx0)
  have BZ_x0 := hB2.size
  go_wp2_with fail
  refine (impl_any _ _ _ zs0 _ (hx0.reads encF_len) hn0).mono ?_
  rw [HV0.out, HV1.out]
  rintro e w4 ⟨rfl, hb4⟩
  have hB4 := below_next hb4 hB3 (Nat.le_refl _)
  have hx0 := hx0.below hb4
  go_wp2_with fail
  refine (toFaultS_any _ _ _ zs0 _ (h0.up hB4) hn0).mono ?_
  rintro e w5 ⟨Ay0, cy0, rfl, hy0, hb5⟩
  have hB5 := below_next hb5 hB4 (Nat.le_refl _)
  have hx0 := hx0.below hb5
  have ry0 := Lib.hid (OwnE.row hy0)
  go_wp2_with fail
  refine (eqFaultS_self _ _ _ _ _ _ zs0 _ (hx0.reads encF_len) (hy0.reads encF_len) hn0).mono ?_
  rintro e w6 ⟨rfl, hb6⟩
  have hB6 := below_next hb6 hB5 (Nat.le_refl _)
  have hx0 := hx0.below hb6
  have hy0 := hy0.below hb6
  go_wp2
  go_ret
  exact ⟨rfl, hB6⟩

set_option maxRecDepth 100000 in
theorem lifted (os : Os) (started : os.Started) (H : Type) (enc : TypeId × Value → H) :
    ReturnsInHanded {} Try.checked os 8 .any (Rows.fnExactCountSlipsSpec.pre6 enc Try.prog Try.f8 Rows.fnExactCountSlipsRow.domain false) (Rows.fnExactCountSlipsSpec.post enc Try.prog Try.f8 false true false false) := by
  refine returnsInHanded_of_change (C := Try.checked) own started (by kernel_rfl) Try.func8
    (ChangeSpec.witness6 (enc := enc) (C := Try.checked) false ⟨#[], #[.slice none 0 0], []⟩ 8 (by kernel_rfl) (by kernel_rfl) (by kernel_rfl) (by kernel_rfl)) ?_
  intro W base args ds gs before hval0 hW _ _
  have hval : ∀ (j : Nat) t v, Try.f8.params[j]? = some t → args[j]? = some v → Value.okWide Try.prog W .any base t v := hval0
  have hW' := hW
  obtain ⟨p, q, hA0, hV, rfl, hfz, hnd⟩ := hW
  have hA : DataW.TrodAll enc Try.prog W 0 (fun _ => true) true Try.f8.params.toList args.toList ds p := hA0
  rw [Try.params8] at hA hval
  obtain ⟨v0, vs0, d0, ds0, p0, q0, hargs, rfl, rfl, h0, r0⟩ := trodAll_cons hA
  obtain ⟨rfl, rfl, rfl⟩ := trodAll_nil r0
  obtain rfl : args = #[v0] := by cases args; simp_all
  obtain ⟨A0, n0, c0, fs0, rfl, hr0, hi0, hn0⟩ := arg_faults Try.underlying32 Try.underlying40 (by kernel_rfl) ⟨rfl, rfl⟩ ⟨rfl, rfl⟩ ⟨rfl, rfl⟩ ⟨rfl, rfl⟩ Try.underlying2 (by kernel_rfl) (hval 0 32 v0 rfl rfl) h0
  refine (walk W A0 n0 c0 fs0 hr0 hi0 hn0).mono fun e W' ⟨he, hb⟩ => ?_
  subst he
  exact ⟨_, rfl, law_post laidOut (by
    rw [show Try.f8.params.toList = [32] from rfl]
    intro t ht
    rw [List.mem_singleton.1 ht]; exact ⟨by kernel_rfl, of_decide_eq_true (by kernel_rfl)⟩) rfl Try.underlying4 rfl rfl hW' hb⟩

set_option maxRecDepth 100000 in
theorem closed : joinedFacts Try.prog 8 Try.f8 Rows.fnExactCountSlipsSpec Rows.fnExactCountSlipsRow = true := by
  unfold joinedFacts
  rw [mayEnter_ok, liftsFinal_ok, make_ok]
  change _ = true
  kernel_rfl

theorem holds : Rows.FnExactCountSlipsSaid :=
  OpenClaim.holds_of_wide 8 Try.f8 rfl rfl rfl rfl rfl rfl rfl ⟨rfl, rfl, rfl, rfl, rfl⟩ rfl rfl rfl rfl rfl (by kernel_rfl) Try.func8 closed
    (of_decide_eq_true (by kernel_rfl)) (by unfold Func.isWrapper; first | (rw [if_pos (by decide +kernel)]; kernel_rfl) | (rw [if_neg (by decide +kernel)]; exact ⟨rfl, rfl⟩))
    (fun os started H enc _ => lifted os started H enc)
end CountSlips
end Go.Proofs.Ytdbfnldjibjbkaa
