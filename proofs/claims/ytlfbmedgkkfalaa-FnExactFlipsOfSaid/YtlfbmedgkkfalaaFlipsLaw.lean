/- FnExactFlipsOf: the program's FlipsOf returns what the reference's returns, for all arguments. Conditions: none. -/
import Derived.Test.YtlfbmedgkkfalaaRow
import Derived.Test.YtlfbmedgkkfalaaHold
import Derived.Test.YtlfbmedgkkfalaaInv
import Derived.Test.YtlfbmedgkkfalaaFlips
namespace Go.Proofs.Ytlfbmedgkkfalaa
open Go.ChangeShapes Go.WideShapes Go.ChangeAt Go.RowKit
namespace FlipsOf
set_option maxHeartbeats 8000000 in
theorem walk (w : World) (A0 : Option Addr) (n0 c0 : Nat) (zs0 : List Flt) (h0 : RE encF 4 w w.heap.size A0 n0 zs0) (_ : ∀ i, i < n0 → I64 (ge zs0 i).kd ∧ I64 (ge zs0 i).pos ∧ I64 (ge zs0 i).len ∧ I64 (ge zs0 i).val) (hm0 : n0 ≤ maxLen) :
    Calls Try.prog 10 #[.slice A0 n0 c0] w fun e w' => e = .returned (.bool true) ∧ Below w.heap.size w w' := by
  by_cases hs0 : (n0 : Int) ≤ 1048576
  case neg => go_enter Try.func10, Try.ntmps10; go_wp2_with fail; refine (szFaultS_any _ n0 _ 1048576 _ hm0 (by omega) (by omega)).mono ?_; rw [szF_negL (by omega)]; rintro e w' ⟨rfl, rfl⟩; go_wp2; go_ret; exact ⟨rfl, by go_grown⟩
  have hn0 : n0 ≤ 1099511627776 := by omega
  have hq0 : n0 ≤ 1048576 := by omega
  have hRl0 : (res zs0).length ≤ 1099511627776 := by have := res_len zs0; omega
  obtain ⟨R, hR⟩ : ∃ x, res zs0 = x := ⟨_, rfl⟩
  obtain ⟨C, hC⟩ : ∃ x, cod zs0 = x := ⟨_, rfl⟩
  rw [hR] at hRl0
  have HR := Lib.hid hR
  clear hR
  have HC := Lib.hid hC
  clear hC
  go_enter Try.func10, Try.ntmps10
  go_wp2_with fail; refine (szFaultS_any _ n0 _ 1048576 _ hm0 (by omega) (by omega)).mono ?_; rw [szF_posL (by omega)]; rintro e w' ⟨rfl, rfl⟩
  clear hm0
  have hB0 : Below w.heap.size w w := Below.refl _ _
  go_wp2_with fail
  refine (toFaultS_any A0 n0 c0 zs0 _ (h0.up hB0) hn0).mono ?_
  rintro e w1 ⟨At0, ct0, rfl, ht0, hb1⟩
  have hB1 := below_next hb1 hB0 (Nat.le_refl _)
  have rt0 := Lib.hid (OwnE.row ht0)
  go_wp2_with fail
  refine (spec_any _ _ _ zs0 _ (ht0.reads encF_len) hn0).mono ?_
  rw [HR.out, HC.out]
  rintro e w2 ⟨As, ns, cs, rfl, hs, hb2⟩
  have hB2 := below_next hb2 hB1 (Nat.le_refl _)
  have ht0 := ht0.below hb2
  have rs := Lib.hid (own_row hs)
  have hls : ns ≤ 1099511627776 := by rw [← hs.len]; exact hRl0
  go_wp2_with fail
  refine (toFaultS_any A0 n0 c0 zs0 _ (h0.up hB2) hn0).mono ?_
  rintro e w3 ⟨Ax0, cx0, rfl, hx0, hb3⟩
  have hB3 := below_next hb3 hB2 (Nat.le_refl _)
  have hs := hs.below hb3
  have rx0 := Lib.hid (OwnE.row hx0)
  have BZ_x0 := hB2.size
  have SZ_s_x0 : w2.heap.size ≤ w2.heap.size := Nat.le_refl _
  go_wp2_with fail
  refine (impl_any _ _ _ zs0 _ (hx0.reads encF_len) hn0).mono ?_
  rw [HR.out, HC.out]
  rintro e w4 ⟨Ag, ng, cg, rfl, hg, hb4⟩
  have hB4 := below_next hb4 hB3 (Nat.le_refl _)
  have hs := hs.below hb4
  have hx0 := hx0.below hb4
  have rg := Lib.hid (own_row hg)
  have hlg : ng ≤ 1099511627776 := by rw [← hg.len]; exact hRl0
  have BZ_g := hB3.size
  have SZ_s_g : w2.heap.size ≤ w3.heap.size := hb3.size
  have SZ_x0_g : w3.heap.size ≤ w3.heap.size := Nat.le_refl _
  go_wp2_with fail
  refine (eqInt64S_any _ _ _ _ _ _ R R _ hg.reads hs.reads hlg hls).mono ?_
  rw [eqI_self]
  rintro e w5 ⟨rfl, hb5⟩
  have hB5 := below_next hb5 hB4 (Nat.le_refl _)
  have hs := hs.below hb5
  have hx0 := hx0.below hb5
  have hg := hg.below hb5
  go_wp2_with fail
  refine (toFaultS_any A0 n0 c0 zs0 _ (h0.up hB5) hn0).mono ?_
  rintro e w6 ⟨Ay0, cy0, rfl, hy0, hb6⟩
  have hB6 := below_next hb6 hB5 (Nat.le_refl _)
  have hs := hs.below hb6
  have hx0 := hx0.below hb6
  have hg := hg.below hb6
  have ry0 := Lib.hid (OwnE.row hy0)
  go_wp2_with fail
  refine (eqFaultS_self _ _ _ _ _ _ zs0 _ (hx0.reads encF_len) (hy0.reads encF_len) hn0).mono ?_
  rintro e w7 ⟨rfl, hb7⟩
  have hB7 := below_next hb7 hB6 (Nat.le_refl _)
  have hs := hs.below hb7
  have hx0 := hx0.below hb7
  have hg := hg.below hb7
  have hy0 := hy0.below hb7
  go_wp2_with fail
  refine (markFaultS_any _ _ _ _ zs0 1 _ hx0 hn0 (by omega) (by omega)).mono ?_
  rintro e w8 ⟨rfl, hmx0, hg8⟩
  have hs := hs.kept hg8 (apartI_lo rs.out rx0.out SZ_s_x0)
  have hg := hg.kept hg8 (apartI_hi rg.out rx0.out SZ_x0_g)
  have hB8 := hB7.grown hg8 hB7.size (fun g e => Nat.le_trans BZ_x0 (rx0.out g e).1)
  go_wp2_with fail
  refine (eqInt64S_any _ _ _ _ _ _ R R _ hg.reads hs.reads hlg hls).mono ?_
  rw [eqI_self]
  rintro e w9 ⟨rfl, hb9⟩
  have hB9 := below_next hb9 hB8 (Nat.le_refl _)
  have hs := hs.below hb9
  have hg := hg.below hb9
  go_wp2_with fail
  refine (markInt64S_any _ _ _ _ R 1 _ hg hlg (by omega) (by omega)).mono ?_
  rintro e w10 ⟨rfl, hmg, hg10⟩
  have hs := hs.kept hg10 (apartI_lo rs.out rg.out SZ_s_g)
  have hB10 := hB9.grown hg10 hB9.size (fun g e => Nat.le_trans BZ_g (rg.out g e).1)
  go_wp2_with fail
  refine (heldInt64S_any _ _ _ 1 _ hmg.reads hlg (by omega) (by omega)).mono ?_
  rintro e w' ⟨rfl, rfl⟩
  go_wp2_with fail
  refine (toFaultS_any A0 n0 c0 zs0 _ (h0.up hB10) hn0).mono ?_
  rintro e w11 ⟨At90, ct90, rfl, ht90, hb11⟩
  have hB11 := below_next hb11 hB10 (Nat.le_refl _)
  have hs := hs.below hb11
  have hmg := hmg.below hb11
  have rt90 := Lib.hid (OwnE.row ht90)
  go_wp2_with fail
  refine (impl_any _ _ _ zs0 _ (ht90.reads encF_len) hn0).mono ?_
  rw [HR.out, HC.out]
  rintro e w12 ⟨Az, nz, cz, rfl, hz, hb12⟩
  have hB12 := below_next hb12 hB11 (Nat.le_refl _)
  have hs := hs.below hb12
  have hmg := hmg.below hb12
  have ht90 := ht90.below hb12
  have rz := Lib.hid (own_row hz)
  have hlz : nz ≤ 1099511627776 := by rw [← hz.len]; exact hRl0
  go_wp2_with fail
  refine (eqInt64S_any _ _ _ _ _ _ R R _ hz.reads hs.reads hlz hls).mono ?_
  rw [eqI_self]
  rintro e w13 ⟨rfl, hb13⟩
  have hB13 := below_next hb13 hB12 (Nat.le_refl _)
  have hs := hs.below hb13
  have hmg := hmg.below hb13
  have hz := hz.below hb13
  go_wp2_with fail
  refine (heldInt64S_any _ _ _ 1 _ hmg.reads hlg (by omega) (by omega)).mono ?_
  rintro e w' ⟨rfl, rfl⟩
  go_wp2
  go_ret
  exact ⟨rfl, hB13⟩

set_option maxRecDepth 100000 in
theorem lifted (os : Os) (started : os.Started) (H : Type) (enc : TypeId × Value → H) :
    ReturnsInHanded {} Try.checked os 10 .any (Rows.fnExactFlipsOfSpec.pre6 enc Try.prog Try.f10 Rows.fnExactFlipsOfRow.domain false) (Rows.fnExactFlipsOfSpec.post enc Try.prog Try.f10 false true false false) := by
  refine returnsInHanded_of_change (C := Try.checked) own started (by kernel_rfl) Try.func10
    (ChangeSpec.witness6 (enc := enc) (C := Try.checked) false ⟨#[], #[.slice none 0 0], []⟩ 8 (by kernel_rfl) (by kernel_rfl) (by kernel_rfl) (by kernel_rfl)) ?_
  intro W base args ds gs before hval0 hW _ _
  have hval : ∀ (j : Nat) t v, Try.f10.params[j]? = some t → args[j]? = some v → Value.okWide Try.prog W .any base t v := hval0
  have hW' := hW
  obtain ⟨p, q, hA0, hV, rfl, hfz, hnd⟩ := hW
  have hA : DataW.TrodAll enc Try.prog W 0 (fun _ => true) true Try.f10.params.toList args.toList ds p := hA0
  rw [Try.params10] at hA hval
  obtain ⟨v0, vs0, d0, ds0, p0, q0, hargs, rfl, rfl, h0, r0⟩ := trodAll_cons hA
  obtain ⟨rfl, rfl, rfl⟩ := trodAll_nil r0
  obtain rfl : args = #[v0] := by cases args; simp_all
  obtain ⟨A0, n0, c0, fs0, rfl, hr0, hi0, hn0⟩ := arg_faults Try.underlying38 Try.underlying73 (by kernel_rfl) ⟨rfl, rfl⟩ ⟨rfl, rfl⟩ ⟨rfl, rfl⟩ ⟨rfl, rfl⟩ Try.underlying2 (by kernel_rfl) (hval 0 38 v0 rfl rfl) h0
  refine (walk W A0 n0 c0 fs0 hr0 hi0 hn0).mono fun e W' ⟨he, hb⟩ => ?_
  subst he
  exact ⟨_, rfl, law_post laidOut (by
    rw [show Try.f10.params.toList = [38] from rfl]
    intro t ht
    rw [List.mem_singleton.1 ht]; exact ⟨by kernel_rfl, of_decide_eq_true (by kernel_rfl)⟩) rfl Try.underlying4 rfl rfl hW' hb⟩

set_option maxRecDepth 100000 in
theorem closed : joinedFacts Try.prog 10 Try.f10 Rows.fnExactFlipsOfSpec Rows.fnExactFlipsOfRow = true := by
  unfold joinedFacts
  rw [mayEnter_ok, liftsFinal_ok, make_ok]
  change _ = true
  kernel_rfl

theorem holds : Rows.FnExactFlipsOfSaid :=
  OpenClaim.holds_of_wide 10 Try.f10 rfl rfl rfl rfl rfl rfl rfl ⟨rfl, rfl, rfl, rfl, rfl⟩ rfl rfl rfl rfl rfl (by kernel_rfl) Try.func10 closed
    (of_decide_eq_true (by kernel_rfl)) (by unfold Func.isWrapper; first | (rw [if_pos (by decide +kernel)]; kernel_rfl) | (rw [if_neg (by decide +kernel)]; exact ⟨rfl, rfl⟩))
    (fun os started H enc _ => lifted os started H enc)
end FlipsOf
end Go.Proofs.Ytlfbmedgkkfalaa
