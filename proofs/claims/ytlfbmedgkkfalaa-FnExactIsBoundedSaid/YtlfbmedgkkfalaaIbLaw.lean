/- FnExactIsBounded: the program's IsBounded returns what the reference's returns, for all arguments. Conditions: none. -/
import Derived.Test.YtlfbmedgkkfalaaRow
import Derived.Test.YtlfbmedgkkfalaaHold
import Derived.Test.YtlfbmedgkkfalaaInv
import Derived.Test.YtlfbmedgkkfalaaBnd5
namespace Go.Proofs.Ytlfbmedgkkfalaa
open Go.ChangeShapes Go.WideShapes Go.ChangeAt Go.RowKit
namespace IsBounded
set_option maxHeartbeats 8000000 in
theorem walk (w : World) (A0 : Option Addr) (n0 c0 : Nat) (zs0 : List Int) (h0 : RI w w.heap.size A0 n0 zs0) (_ : ∀ i, i < n0 → I64 (gi zs0 i)) (hm0 : n0 ≤ maxLen) (A1 : Option Addr) (n1 c1 : Nat) (zs1 : List Flt) (h1 : RE encF 4 w w.heap.size A1 n1 zs1) (_ : ∀ i, i < n1 → I64 (ge zs1 i).kd ∧ I64 (ge zs1 i).pos ∧ I64 (ge zs1 i).len ∧ I64 (ge zs1 i).val) (hm1 : n1 ≤ maxLen) :
    Calls Try.prog 13 #[.slice A0 n0 c0, .slice A1 n1 c1] w fun e w' => e = .returned (.bool true) ∧ Below w.heap.size w w' := by
  unfold maxLen at hm0
  by_cases hs0 : n0 ≤ 1048576
  case neg => go_enter Try.func13, Try.ntmps13; go_wp2; go_ret; exact ⟨rfl, by go_grown⟩
  by_cases hs1 : (n1 : Int) ≤ 1048576
  case neg => go_enter Try.func13, Try.ntmps13; go_wp2_with fail; refine (szFaultS_any _ n1 _ 1048576 _ hm1 (by omega) (by omega)).mono ?_; rw [szF_negL (by omega)]; rintro e w' ⟨rfl, rfl⟩; go_wp2; go_ret; exact ⟨rfl, by go_grown⟩
  have hn0 : n0 ≤ 1099511627776 := by omega
  have hq0 : n0 ≤ 1048576 := by omega
  have hn1 : n1 ≤ 1099511627776 := by omega
  have hq1 : n1 ≤ 1048576 := by omega
  obtain ⟨V0, hV0⟩ : ∃ x, val zs0 zs1 = x := ⟨_, rfl⟩
  have HV0 := Lib.hid hV0
  clear hV0
  go_enter Try.func13, Try.ntmps13
  go_wp2_with fail; refine (szFaultS_any _ n1 _ 1048576 _ hm1 (by omega) (by omega)).mono ?_; rw [szF_posL (by omega)]; rintro e w' ⟨rfl, rfl⟩
  clear hm0
  clear hm1
  have hB0 : Below w.heap.size w w := Below.refl _ _
  go_wp2_with fail
  refine (toInt64S_any A0 n0 c0 zs0 _ (h0.up hB0) hn0).mono ?_
  rintro e w1 ⟨At0, ct0, rfl, ht0, hb1⟩
  have hB1 := below_next hb1 hB0 (Nat.le_refl _)
  have rt0 := Lib.hid (own_row ht0)
  go_wp2_with fail
  refine (toFaultS_any A1 n1 c1 zs1 _ (h1.up hB1) hn1).mono ?_
  rintro e w2 ⟨At1, ct1, rfl, ht1, hb2⟩
  have hB2 := below_next hb2 hB1 (Nat.le_refl _)
  have ht0 := ht0.below hb2
  have rt1 := Lib.hid (OwnE.row ht1)
  go_wp2_with fail
  refine (spec_any _ _ _ zs0 _ _ _ zs1 _ ht0.reads hn0 ht0.pl ht0.cap.1 ht0.cap.2 (ht1.reads encF_len) hn1).mono ?_
  rw [HV0.out]
  rintro e w3 ⟨rfl, hb3⟩
  have hB3 := below_next hb3 hB2 (Nat.le_refl _)
  have ht0 := ht0.below hb3
  have ht1 := ht1.below hb3
  go_wp2_with fail
  refine (toInt64S_any A0 n0 c0 zs0 _ (h0.up hB3) hn0).mono ?_
  rintro e w4 ⟨Ax0, cx0, rfl, hx0, hb4⟩
  have hB4 := below_next hb4 hB3 (Nat.le_refl _)
  have rx0 := Lib.hid (own_row hx0)
  have BZ_x0 := hB3.size
  go_wp2_with fail
  refine (toFaultS_any A1 n1 c1 zs1 _ (h1.up hB4) hn1).mono ?_
  rintro e w5 ⟨Ax1, cx1, rfl, hx1, hb5⟩
  have hB5 := below_next hb5 hB4 (Nat.le_refl _)
  have hx0 := hx0.below hb5
  have rx1 := Lib.hid (OwnE.row hx1)
  have BZ_x1 := hB4.size
  go_wp2_with fail
  refine (impl_any _ _ _ zs0 _ _ _ zs1 _ hx0.reads hn0 hx0.pl hx0.cap.1 hx0.cap.2 (hx1.reads encF_len) hn1).mono ?_
  rw [HV0.out]
  rintro e w6 ⟨rfl, hb6⟩
  have hB6 := below_next hb6 hB5 (Nat.le_refl _)
  have hx0 := hx0.below hb6
  have hx1 := hx1.below hb6
  go_wp2_with fail
  refine (toInt64S_any A0 n0 c0 zs0 _ (h0.up hB6) hn0).mono ?_
  rintro e w7 ⟨Ay0, cy0, rfl, hy0, hb7⟩
  have hB7 := below_next hb7 hB6 (Nat.le_refl _)
  have hx0 := hx0.below hb7
  have hx1 := hx1.below hb7
  have ry0 := Lib.hid (own_row hy0)
  go_wp2_with fail
  refine (eqInt64S_any _ _ _ _ _ _ zs0 zs0 _ hx0.reads hy0.reads hn0 hn0).mono ?_
  rw [eqI_self]
  rintro e w8 ⟨rfl, hb8⟩
  have hB8 := below_next hb8 hB7 (Nat.le_refl _)
  have hx0 := hx0.below hb8
  have hx1 := hx1.below hb8
  have hy0 := hy0.below hb8
  go_wp2_with fail
  refine (toFaultS_any A1 n1 c1 zs1 _ (h1.up hB8) hn1).mono ?_
  rintro e w9 ⟨Ay1, cy1, rfl, hy1, hb9⟩
  have hB9 := below_next hb9 hB8 (Nat.le_refl _)
  have hx0 := hx0.below hb9
  have hx1 := hx1.below hb9
  have ry1 := Lib.hid (OwnE.row hy1)
  go_wp2_with fail
  refine (eqFaultS_self _ _ _ _ _ _ zs1 _ (hx1.reads encF_len) (hy1.reads encF_len) hn1).mono ?_
  rintro e w10 ⟨rfl, hb10⟩
  have hB10 := below_next hb10 hB9 (Nat.le_refl _)
  have hx0 := hx0.below hb10
  have hx1 := hx1.below hb10
  have hy1 := hy1.below hb10
  go_wp2
  go_ret
  exact ⟨rfl, hB10⟩

set_option maxRecDepth 100000 in
theorem lifted (os : Os) (started : os.Started) (H : Type) (enc : TypeId × Value → H) :
    ReturnsInHanded {} Try.checked os 13 .any (Rows.fnExactIsBoundedSpec.pre6 enc Try.prog Try.f13 Rows.fnExactIsBoundedRow.domain false) (Rows.fnExactIsBoundedSpec.post enc Try.prog Try.f13 false true false false) := by
  refine returnsInHanded_of_change (C := Try.checked) own started (by kernel_rfl) Try.func13
    (ChangeSpec.witness6 (enc := enc) (C := Try.checked) false ⟨#[], #[.slice none 0 0, .slice none 0 0], []⟩ 8 (by kernel_rfl) (by kernel_rfl) (by kernel_rfl) (by kernel_rfl)) ?_
  intro W base args ds gs before hval0 hW _ _
  have hval : ∀ (j : Nat) t v, Try.f13.params[j]? = some t → args[j]? = some v → Value.okWide Try.prog W .any base t v := hval0
  have hW' := hW
  obtain ⟨p, q, hA0, hV, rfl, hfz, hnd⟩ := hW
  have hA : DataW.TrodAll enc Try.prog W 0 (fun _ => true) true Try.f13.params.toList args.toList ds p := hA0
  rw [Try.params13] at hA hval
  obtain ⟨v0, vs0, d0, ds0, p0, q0, hargs, rfl, rfl, h0, r0⟩ := trodAll_cons hA
  obtain ⟨v1, vs1, d1, ds1, p1, q1, rfl, rfl, rfl, h1, r1⟩ := trodAll_cons r0
  obtain ⟨rfl, rfl, rfl⟩ := trodAll_nil r1
  obtain rfl : args = #[v0, v1] := by cases args; simp_all
  obtain ⟨A0, n0, c0, zs0, rfl, hr0, hi0, hn0⟩ := arg_ints Try.underlying24 Try.underlying2 (by kernel_rfl) (hval 0 24 v0 rfl rfl) h0
  obtain ⟨A1, n1, c1, fs1, rfl, hr1, hi1, hn1⟩ := arg_faults Try.underlying38 Try.underlying73 (by kernel_rfl) ⟨rfl, rfl⟩ ⟨rfl, rfl⟩ ⟨rfl, rfl⟩ ⟨rfl, rfl⟩ Try.underlying2 (by kernel_rfl) (hval 1 38 v1 rfl rfl) h1
  refine (walk W A0 n0 c0 zs0 hr0 hi0 hn0 A1 n1 c1 fs1 hr1 hi1 hn1).mono fun e W' ⟨he, hb⟩ => ?_
  subst he
  exact ⟨_, rfl, law_post laidOut (by
    rw [show Try.f13.params.toList = [24, 38] from rfl]
    intro t ht
    simp only [List.mem_cons, List.not_mem_nil, or_false] at ht
    rcases ht with rfl | rfl <;> exact ⟨by kernel_rfl, of_decide_eq_true (by kernel_rfl)⟩) rfl Try.underlying4 rfl rfl hW' hb⟩

set_option maxRecDepth 100000 in
theorem closed : joinedFacts Try.prog 13 Try.f13 Rows.fnExactIsBoundedSpec Rows.fnExactIsBoundedRow = true := by
  unfold joinedFacts
  rw [mayEnter_ok, liftsFinal_ok, make_ok]
  change _ = true
  kernel_rfl

theorem holds : Rows.FnExactIsBoundedSaid :=
  OpenClaim.holds_of_wide 13 Try.f13 rfl rfl rfl rfl rfl rfl rfl ⟨rfl, rfl, rfl, rfl, rfl⟩ rfl rfl rfl rfl rfl (by kernel_rfl) Try.func13 closed
    (of_decide_eq_true (by kernel_rfl)) (by unfold Func.isWrapper; first | (rw [if_pos (by decide +kernel)]; kernel_rfl) | (rw [if_neg (by decide +kernel)]; exact ⟨rfl, rfl⟩))
    (fun os started H enc _ => lifted os started H enc)
end IsBounded
end Go.Proofs.Ytlfbmedgkkfalaa
