/- FnExactJoinScripts: the program's JoinScripts returns what the reference's returns, for all arguments. Conditions: none. -/
import Derived.Test.YtlfbmedgkkfalaaRow
import Derived.Test.YtlfbmedgkkfalaaHold
import Derived.Test.YtlfbmedgkkfalaaInv
import Derived.Test.YtlfbmedgkkfalaaJoin
namespace Go.Proofs.Ytlfbmedgkkfalaa
open Go.ChangeShapes Go.WideShapes Go.ChangeAt Go.RowKit
namespace JoinScripts
set_option maxHeartbeats 8000000 in
theorem walk (w : World) (A0 : Option Addr) (n0 c0 : Nat) (zs0 : List Flt) (h0 : RE encF 4 w w.heap.size A0 n0 zs0) (_ : ∀ i, i < n0 → I64 (ge zs0 i).kd ∧ I64 (ge zs0 i).pos ∧ I64 (ge zs0 i).len ∧ I64 (ge zs0 i).val) (hm0 : n0 ≤ maxLen) (A1 : Option Addr) (n1 c1 : Nat) (zs1 : List Flt) (h1 : RE encF 4 w w.heap.size A1 n1 zs1) (_ : ∀ i, i < n1 → I64 (ge zs1 i).kd ∧ I64 (ge zs1 i).pos ∧ I64 (ge zs1 i).len ∧ I64 (ge zs1 i).val) (hm1 : n1 ≤ maxLen) :
    Calls Try.prog 4 #[.slice A0 n0 c0, .slice A1 n1 c1] w fun e w' => e = .returned (.bool true) ∧ Below w.heap.size w w' := by
  by_cases hs0 : (n0 : Int) ≤ 1048576
  case neg => go_enter Try.func4, Try.ntmps4; go_wp2_with fail; refine (szFaultS_any _ n0 _ 1048576 _ hm0 (by omega) (by omega)).mono ?_; rw [szF_negL (by omega)]; rintro e w' ⟨rfl, rfl⟩; go_wp2; go_ret; exact ⟨rfl, by go_grown⟩
  by_cases hs1 : (n1 : Int) ≤ (1048576 - (n0 : Int))
  case neg => go_enter Try.func4, Try.ntmps4; go_wp2_with fail; refine (szFaultS_any _ n0 _ 1048576 _ hm0 (by omega) (by omega)).mono ?_; rw [szF_posL (by omega)]; rintro e w' ⟨rfl, rfl⟩; go_wp2_with fail; refine (szFaultS_any _ n1 _ (1048576 - (n0 : Int)) _ hm1 (by omega) (by omega)).mono ?_; rw [szF_negL (by omega)]; rintro e w' ⟨rfl, rfl⟩; go_wp2; go_ret; exact ⟨rfl, by go_grown⟩
  have hn0 : n0 ≤ 1099511627776 := by omega
  have hq0 : n0 ≤ 1048576 := by omega
  have hn1 : n1 ≤ 1099511627776 := by omega
  have hq1 : n1 ≤ 1048576 := by omega
  have hRl0 : (res zs0 zs1).length ≤ 1099511627776 := by have := res_len zs0 zs1; omega
  obtain ⟨R, hR⟩ : ∃ x, res zs0 zs1 = x := ⟨_, rfl⟩
  obtain ⟨C, hC⟩ : ∃ x, cod zs0 zs1 = x := ⟨_, rfl⟩
  rw [hR] at hRl0
  have HR := Lib.hid hR
  clear hR
  have HC := Lib.hid hC
  clear hC
  go_enter Try.func4, Try.ntmps4
  go_wp2_with fail; refine (szFaultS_any _ n0 _ 1048576 _ hm0 (by omega) (by omega)).mono ?_; rw [szF_posL (by omega)]; rintro e w' ⟨rfl, rfl⟩
  go_wp2_with fail; refine (szFaultS_any _ n1 _ (1048576 - (n0 : Int)) _ hm1 (by omega) (by omega)).mono ?_; rw [szF_posL (by omega)]; rintro e w' ⟨rfl, rfl⟩
  clear hm0
  clear hm1
  have hB0 : Below w.heap.size w w := Below.refl _ _
  go_wp2_with fail
  refine (toFaultS_any A0 n0 c0 zs0 _ (h0.up hB0) hn0).mono ?_
  rintro e w1 ⟨At0, ct0, rfl, ht0, hb1⟩
  have hB1 := below_next hb1 hB0 (Nat.le_refl _)
  have rt0 := Lib.hid (OwnE.row ht0)
  go_wp2_with fail
  refine (toFaultS_any A1 n1 c1 zs1 _ (h1.up hB1) hn1).mono ?_
  rintro e w2 ⟨At1, ct1, rfl, ht1, hb2⟩
  have hB2 := below_next hb2 hB1 (Nat.le_refl _)
  have ht0 := ht0.below hb2
  have rt1 := Lib.hid (OwnE.row ht1)
  go_wp2_with fail
  refine (spec_any _ _ _ zs0 _ _ _ zs1 _ (ht0.reads encF_len) hn0 ht0.none_cap (ht1.reads encF_len) hn1 ht1.none_cap).mono ?_
  rw [HR.out, HC.out]
  rintro e w3 ⟨As, ns, cs, rfl, hs, hb3⟩
  have hB3 := below_next hb3 hB2 (Nat.le_refl _)
  have ht0 := ht0.below hb3
  have ht1 := ht1.below hb3
  have rs := Lib.hid (OwnE.row hs)
  have hls : ns ≤ 1099511627776 := by rw [← hs.len]; exact hRl0
  go_wp2_with fail
  refine (toFaultS_any A0 n0 c0 zs0 _ (h0.up hB3) hn0).mono ?_
  rintro e w4 ⟨Ax0, cx0, rfl, hx0, hb4⟩
  have hB4 := below_next hb4 hB3 (Nat.le_refl _)
  have hs := hs.below hb4
  have rx0 := Lib.hid (OwnE.row hx0)
  have BZ_x0 := hB3.size
  have SZ_s_x0 : w3.heap.size ≤ w3.heap.size := Nat.le_refl _
  go_wp2_with fail
  refine (toFaultS_any A1 n1 c1 zs1 _ (h1.up hB4) hn1).mono ?_
  rintro e w5 ⟨Ax1, cx1, rfl, hx1, hb5⟩
  have hB5 := below_next hb5 hB4 (Nat.le_refl _)
  have hs := hs.below hb5
  have hx0 := hx0.below hb5
  have rx1 := Lib.hid (OwnE.row hx1)
  have BZ_x1 := hB4.size
  have SZ_s_x1 : w3.heap.size ≤ w4.heap.size := hb4.size
  have SZ_x0_x1 : w4.heap.size ≤ w4.heap.size := Nat.le_refl _
  go_wp2_with fail
  refine (impl_any _ _ _ zs0 _ _ _ zs1 _ (hx0.reads encF_len) hn0 hx0.none_cap (hx1.reads encF_len) hn1 hx1.none_cap).mono ?_
  rw [HR.out, HC.out]
  rintro e w6 ⟨Ag, ng, cg, rfl, hg, hb6⟩
  have hB6 := below_next hb6 hB5 (Nat.le_refl _)
  have hs := hs.below hb6
  have hx0 := hx0.below hb6
  have hx1 := hx1.below hb6
  have rg := Lib.hid (OwnE.row hg)
  have hlg : ng ≤ 1099511627776 := by rw [← hg.len]; exact hRl0
  have BZ_g := hB5.size
  have SZ_s_g : w3.heap.size ≤ w5.heap.size := Nat.le_trans (hb4.size) hb5.size
  have SZ_x0_g : w4.heap.size ≤ w5.heap.size := hb5.size
  have SZ_x1_g : w5.heap.size ≤ w5.heap.size := Nat.le_refl _
  go_wp2_with fail
  refine (eqFaultS_self _ _ _ _ _ _ R _ (hg.reads encF_len) (hs.reads encF_len) hlg).mono ?_
  rintro e w7 ⟨rfl, hb7⟩
  have hB7 := below_next hb7 hB6 (Nat.le_refl _)
  have hs := hs.below hb7
  have hx0 := hx0.below hb7
  have hx1 := hx1.below hb7
  have hg := hg.below hb7
  go_wp2_with fail
  refine (toFaultS_any A0 n0 c0 zs0 _ (h0.up hB7) hn0).mono ?_
  rintro e w8 ⟨Ay0, cy0, rfl, hy0, hb8⟩
  have hB8 := below_next hb8 hB7 (Nat.le_refl _)
  have hs := hs.below hb8
  have hx0 := hx0.below hb8
  have hx1 := hx1.below hb8
  have hg := hg.below hb8
  have ry0 := Lib.hid (OwnE.row hy0)
  go_wp2_with fail
  refine (eqFaultS_self _ _ _ _ _ _ zs0 _ (hx0.reads encF_len) (hy0.reads encF_len) hn0).mono ?_
  rintro e w9 ⟨rfl, hb9⟩
  have hB9 := below_next hb9 hB8 (Nat.le_refl _)
  have hs := hs.below hb9
  have hx0 := hx0.below hb9
  have hx1 := hx1.below hb9
  have hg := hg.below hb9
  have hy0 := hy0.below hb9
  go_wp2_with fail
  refine (toFaultS_any A1 n1 c1 zs1 _ (h1.up hB9) hn1).mono ?_
  rintro e w10 ⟨Ay1, cy1, rfl, hy1, hb10⟩
  have hB10 := below_next hb10 hB9 (Nat.le_refl _)
  have hs := hs.below hb10
  have hx0 := hx0.below hb10
  have hx1 := hx1.below hb10
  have hg := hg.below hb10
  have ry1 := Lib.hid (OwnE.row hy1)
  go_wp2_with fail
  refine (eqFaultS_self _ _ _ _ _ _ zs1 _ (hx1.reads encF_len) (hy1.reads encF_len) hn1).mono ?_
  rintro e w11 ⟨rfl, hb11⟩
  have hB11 := below_next hb11 hB10 (Nat.le_refl _)
  have hs := hs.below hb11
  have hx0 := hx0.below hb11
  have hx1 := hx1.below hb11
  have hg := hg.below hb11
  have hy1 := hy1.below hb11
  go_wp2_with fail
  refine (markFaultS_any _ _ _ _ zs0 1 _ hx0 hn0 (by omega) (by omega)).mono ?_
  rintro e w12 ⟨rfl, hmx0, hg12⟩
  have hs := hs.kept hg12 (apartE_lo rs.out rx0.out SZ_s_x0)
  have hx1 := hx1.kept hg12 (apartE_hi rx1.out rx0.out SZ_x0_x1)
  have hg := hg.kept hg12 (apartE_hi rg.out rx0.out SZ_x0_g)
  have hB12 := hB11.grown hg12 hB11.size (fun g e => Nat.le_trans BZ_x0 (rx0.out g e).1)
  go_wp2_with fail
  refine (markFaultS_any _ _ _ _ zs1 (1 + 4 * (n0 : Int)) _ hx1 hn1 (by omega) (by omega)).mono ?_
  rintro e w13 ⟨rfl, hmx1, hg13⟩
  have hs := hs.kept hg13 (apartE_lo rs.out rx1.out SZ_s_x1)
  have hmx0 := hmx0.kept hg13 (apartE_lo rx0.out rx1.out SZ_x0_x1)
  have hg := hg.kept hg13 (apartE_hi rg.out rx1.out SZ_x1_g)
  have hB13 := hB12.grown hg13 hB12.size (fun g e => Nat.le_trans BZ_x1 (rx1.out g e).1)
  go_wp2_with fail
  refine (eqFaultS_self _ _ _ _ _ _ R _ (hg.reads encF_len) (hs.reads encF_len) hlg).mono ?_
  rintro e w14 ⟨rfl, hb14⟩
  have hB14 := below_next hb14 hB13 (Nat.le_refl _)
  have hs := hs.below hb14
  have hg := hg.below hb14
  go_wp2_with fail
  refine (markFaultS_any _ _ _ _ R 1 _ hg hlg (by omega) (by omega)).mono ?_
  rintro e w15 ⟨rfl, hmg, hg15⟩
  have hs := hs.kept hg15 (apartE_lo rs.out rg.out SZ_s_g)
  have hB15 := hB14.grown hg15 hB14.size (fun g e => Nat.le_trans BZ_g (rg.out g e).1)
  go_wp2_with fail
  refine (heldFaultS_any _ _ _ 1 _ (hmg.reads encF_len) hlg (by omega) (by omega)).mono ?_
  rintro e w16 ⟨rfl, hb16⟩
  have hB16 := below_next hb16 hB15 (Nat.le_refl _)
  have hs := hs.below hb16
  have hmg := hmg.below hb16
  go_wp2_with fail
  refine (toFaultS_any A0 n0 c0 zs0 _ (h0.up hB16) hn0).mono ?_
  rintro e w17 ⟨At90, ct90, rfl, ht90, hb17⟩
  have hB17 := below_next hb17 hB16 (Nat.le_refl _)
  have hs := hs.below hb17
  have hmg := hmg.below hb17
  have rt90 := Lib.hid (OwnE.row ht90)
  go_wp2_with fail
  refine (toFaultS_any A1 n1 c1 zs1 _ (h1.up hB17) hn1).mono ?_
  rintro e w18 ⟨At91, ct91, rfl, ht91, hb18⟩
  have hB18 := below_next hb18 hB17 (Nat.le_refl _)
  have hs := hs.below hb18
  have hmg := hmg.below hb18
  have ht90 := ht90.below hb18
  have rt91 := Lib.hid (OwnE.row ht91)
  go_wp2_with fail
  refine (impl_any _ _ _ zs0 _ _ _ zs1 _ (ht90.reads encF_len) hn0 ht90.none_cap (ht91.reads encF_len) hn1 ht91.none_cap).mono ?_
  rw [HR.out, HC.out]
  rintro e w19 ⟨Az, nz, cz, rfl, hz, hb19⟩
  have hB19 := below_next hb19 hB18 (Nat.le_refl _)
  have hs := hs.below hb19
  have hmg := hmg.below hb19
  have ht90 := ht90.below hb19
  have ht91 := ht91.below hb19
  have rz := Lib.hid (OwnE.row hz)
  have hlz : nz ≤ 1099511627776 := by rw [← hz.len]; exact hRl0
  go_wp2_with fail
  refine (eqFaultS_self _ _ _ _ _ _ R _ (hz.reads encF_len) (hs.reads encF_len) hlz).mono ?_
  rintro e w20 ⟨rfl, hb20⟩
  have hB20 := below_next hb20 hB19 (Nat.le_refl _)
  have hs := hs.below hb20
  have hmg := hmg.below hb20
  have hz := hz.below hb20
  go_wp2_with fail
  refine (heldFaultS_any _ _ _ 1 _ (hmg.reads encF_len) hlg (by omega) (by omega)).mono ?_
  rintro e w21 ⟨rfl, hb21⟩
  have hB21 := below_next hb21 hB20 (Nat.le_refl _)
  have hmg := hmg.below hb21
  go_wp2
  go_ret
  exact ⟨rfl, hB21⟩

set_option maxRecDepth 100000 in
theorem lifted (os : Os) (started : os.Started) (H : Type) (enc : TypeId × Value → H) :
    ReturnsInHanded {} Try.checked os 4 .any (Rows.fnExactJoinScriptsSpec.pre6 enc Try.prog Try.f4 Rows.fnExactJoinScriptsRow.domain false) (Rows.fnExactJoinScriptsSpec.post enc Try.prog Try.f4 false true false false) := by
  refine returnsInHanded_of_change (C := Try.checked) own started (by kernel_rfl) Try.func4
    (ChangeSpec.witness6 (enc := enc) (C := Try.checked) false ⟨#[], #[.slice none 0 0, .slice none 0 0], []⟩ 8 (by kernel_rfl) (by kernel_rfl) (by kernel_rfl) (by kernel_rfl)) ?_
  intro W base args ds gs before hval0 hW _ _
  have hval : ∀ (j : Nat) t v, Try.f4.params[j]? = some t → args[j]? = some v → Value.okWide Try.prog W .any base t v := hval0
  have hW' := hW
  obtain ⟨p, q, hA0, hV, rfl, hfz, hnd⟩ := hW
  have hA : DataW.TrodAll enc Try.prog W 0 (fun _ => true) true Try.f4.params.toList args.toList ds p := hA0
  rw [Try.params4] at hA hval
  obtain ⟨v0, vs0, d0, ds0, p0, q0, hargs, rfl, rfl, h0, r0⟩ := trodAll_cons hA
  obtain ⟨v1, vs1, d1, ds1, p1, q1, rfl, rfl, rfl, h1, r1⟩ := trodAll_cons r0
  obtain ⟨rfl, rfl, rfl⟩ := trodAll_nil r1
  obtain rfl : args = #[v0, v1] := by cases args; simp_all
  obtain ⟨A0, n0, c0, fs0, rfl, hr0, hi0, hn0⟩ := arg_faults Try.underlying38 Try.underlying73 (by kernel_rfl) ⟨rfl, rfl⟩ ⟨rfl, rfl⟩ ⟨rfl, rfl⟩ ⟨rfl, rfl⟩ Try.underlying2 (by kernel_rfl) (hval 0 38 v0 rfl rfl) h0
  obtain ⟨A1, n1, c1, fs1, rfl, hr1, hi1, hn1⟩ := arg_faults Try.underlying38 Try.underlying73 (by kernel_rfl) ⟨rfl, rfl⟩ ⟨rfl, rfl⟩ ⟨rfl, rfl⟩ ⟨rfl, rfl⟩ Try.underlying2 (by kernel_rfl) (hval 1 38 v1 rfl rfl) h1
  refine (walk W A0 n0 c0 fs0 hr0 hi0 hn0 A1 n1 c1 fs1 hr1 hi1 hn1).mono fun e W' ⟨he, hb⟩ => ?_
  subst he
  exact ⟨_, rfl, law_post laidOut (by
    rw [show Try.f4.params.toList = [38, 38] from rfl]
    intro t ht
    simp only [List.mem_cons, List.not_mem_nil, or_false] at ht
    rcases ht with rfl | rfl <;> exact ⟨by kernel_rfl, of_decide_eq_true (by kernel_rfl)⟩) rfl Try.underlying4 rfl rfl hW' hb⟩

set_option maxRecDepth 100000 in
theorem closed : joinedFacts Try.prog 4 Try.f4 Rows.fnExactJoinScriptsSpec Rows.fnExactJoinScriptsRow = true := by
  unfold joinedFacts
  rw [mayEnter_ok, liftsFinal_ok, make_ok]
  change _ = true
  kernel_rfl

theorem holds : Rows.FnExactJoinScriptsSaid :=
  OpenClaim.holds_of_wide 4 Try.f4 rfl rfl rfl rfl rfl rfl rfl ⟨rfl, rfl, rfl, rfl, rfl⟩ rfl rfl rfl rfl rfl (by kernel_rfl) Try.func4 closed
    (of_decide_eq_true (by kernel_rfl)) (by unfold Func.isWrapper; first | (rw [if_pos (by decide +kernel)]; kernel_rfl) | (rw [if_neg (by decide +kernel)]; exact ⟨rfl, rfl⟩))
    (fun os started H enc _ => lifted os started H enc)
end JoinScripts
end Go.Proofs.Ytlfbmedgkkfalaa
