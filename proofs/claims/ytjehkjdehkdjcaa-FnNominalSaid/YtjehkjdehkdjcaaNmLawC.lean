/- FnNominal: cells are recovered from their nominal samples, whose runs are whole cells, for every code. Conditions: none. -/
import Derived.Test.YtjehkjdehkdjcaaB2
import Derived.Test.YtjehkjdehkdjcaaB9
import Derived.Test.YtjehkjdehkdjcaaB22
import Derived.Test.YtjehkjdehkdjcaaB23
import Derived.Test.YtjehkjdehkdjcaaB12
import Derived.Test.YtjehkjdehkdjcaaB13
import Derived.BigQuiet
import Derived.IntWalk
namespace Go.Proofs.Ytjehkjdehkdjcaa
open Go.ChangeShapes Go.WideShapes Go.ChangeAt Go.RowKit
namespace FnNominal

set_option maxRecDepth 100000 in
set_option maxHeartbeats 16000000 in
theorem walk (w : World) (A : Option Addr) (n c : Nat) (bs : List Int) (h : RB w w.heap.size A n bs) (hn : n ≤ maxLen) :
    Calls Try.prog 13 #[.slice A n c] w fun e w' => e = .returned (.bool true) ∧ Below w.heap.size w w' := by
  rcases bool_cases (decide (4096 < n)) with hbig | hbig
  · go_enter Try.func13, Try.ntmps13
    go_wp2_with (go_at_call 21; refine (big_any _ _ _ _ hn).mono ?_; rw [hbig]; rintro e w' ⟨rfl, rfl⟩)
    go_ret
    exact ⟨rfl, Below.refl _ _⟩
  have hn4 : n ≤ 4096 := by simpa using hbig
  have B := Lib.hid (Below.refl w.heap.size w)
  go_enter Try.func13, Try.ntmps13
  go_wp2_with (go_at_call 21; refine (big_any _ _ _ _ hn).mono ?_; rw [hbig]; rintro e w' ⟨rfl, rfl⟩)
  clear hbig hn
  refine (drawNominalSamples_any A n c bs _ ((h.below B.out (Nat.le_refl _)).more B.out.size) (by omega)).mono ?_
  rintro e w1 ⟨A_s, n_s, c_s, z_s, rfl, o_s, hn_s, hb⟩
  replace B := Lib.hid (below_next hb B.out (Nat.le_refl _))
  have r_s := o_s.reads
  have L_s := Lib.hid o_s.len
  have cap_s := o_s.cap
  have non_s := Lib.hid (own_none o_s)
  clear hb o_s
  obtain ⟨X, hX⟩ : ∃ x, NominalSamples.res z_s = x := ⟨_, rfl⟩
  obtain ⟨q, hq⟩ : ∃ x, NominalSamples.cod z_s = x := ⟨_, rfl⟩
  have HX := Lib.hid hX
  have HQ := Lib.hid hq
  have hXl : X.length ≤ 8192 := by rw [← hX]; exact nomi_len _
  have HXL := Lib.hid hXl
  clear hX hq hXl
  go_wp2_with fail
  refine (NominalSamples.impl_any A_s n_s c_s z_s _ r_s (by omega)).mono ?_
  rw [HX.out, HQ.out]
  rintro e w2 ⟨A_x, n_x, c_x, rfl, o_x, hb⟩
  replace B := Lib.hid (below_next hb B.out (Nat.le_refl _))
  replace r_s := r_s.up hb
  have r_x := o_x.reads
  have L_x := Lib.hid o_x.len
  clear hb o_x
  go_wp2_with fail
  refine (NominalSamples.spec_any A_s n_s c_s z_s _ r_s (by omega)).mono ?_
  rw [HX.out, HQ.out]
  rintro e w3 ⟨A_y, n_y, c_y, rfl, o_y, hb⟩
  replace B := Lib.hid (below_next hb B.out (Nat.le_refl _))
  replace r_s := r_s.up hb
  replace r_x := r_x.up hb
  have r_y := o_y.reads
  have L_y := Lib.hid o_y.len
  clear hb o_y
  obtain ⟨N, hN⟩ : ∃ x, X.length = x := ⟨_, rfl⟩
  have HN := Lib.hid hN
  have hNl := HXL.out
  rw [hN] at hNl
  have e_x : N = n_x := by have := L_x.out; omega
  subst e_x
  have e_y : N = n_y := by have := L_y.out; omega
  subst e_y
  clear hN
  go_wp2_with fail
  have lk := likeIntsV A_x A_y (N) (N) c_x c_y X X _ r_x r_y (by omega) (by omega)
  rw [eqI_self] at lk
  refine lk.mono ?_
  clear lk
  rintro e w4 ⟨rfl, hb⟩
  replace B := Lib.hid (below_next hb B.out (Nat.le_refl _))
  replace r_s := r_s.up hb
  replace r_x := r_x.up hb
  replace r_y := r_y.up hb
  clear hb
  clear r_y
  rcases ne_cases q with rfl | ⟨h1, h2, h3⟩
  case inr =>
    go_wp2
    go_ret
    exact ⟨rfl, B.out⟩
  obtain ⟨b1, b2, b3, b4⟩ := nomi_ok HQ.out
  rw [HX.out] at b3
  have LN : N = 8 * n_s := by have := HN.out; rw [b3, nom_len, L_s.out] at this; exact this.symm
  have mm := mid_nom z_s
  have rr := crL_nom b4
  rw [← b3] at mm rr b4
  rw [L_s.out, ← LN] at mm
  rw [L_s.out] at rr
  obtain ⟨R, hR⟩ : ∃ x, crL X = x := ⟨_, rfl⟩
  rw [hR] at rr
  have HRR := Lib.hid hR
  have RR := Lib.hid rr
  have MM := Lib.hid mm
  have B4 := Lib.hid b4
  have B3 := Lib.hid b3
  have HLN := Lib.hid LN
  have hn1 : n_s ≤ 1024 := by have := L_s.out; omega
  clear b1 b2 b3 b4 mm rr hR LN
  go_wp2_with fail
  refine (middle_any A_x N c_x X _ r_x B4.out).mono ?_
  rw [MM.out]
  rintro e w5 ⟨A_m, n_m, c_m, rfl, o_m, hb⟩
  replace B := Lib.hid (below_next hb B.out (Nat.le_refl _))
  replace r_s := r_s.up hb
  replace r_x := r_x.up hb
  have r_m := o_m.reads
  have L_m := Lib.hid o_m.len
  clear hb o_m
  have e_m : n_s = n_m := by have := L_m.out; have := L_s.out; omega
  subst e_m
  go_wp2_with fail
  refine (iCellRuns_any A_x N c_x X _ r_x (by omega)).mono ?_
  rw [HRR.out, RR.out.1]
  rintro e w6 ⟨A_r, n_r, c_r, rfl, o_r, hb⟩
  replace B := Lib.hid (below_next hb B.out (Nat.le_refl _))
  replace r_s := r_s.up hb
  replace r_x := r_x.up hb
  replace r_m := r_m.up hb
  have r_r := o_r.reads
  have L_r := Lib.hid o_r.len
  clear hb o_r
  go_wp2_with fail
  refine (worst_nom A_x N c_x z_s _ (B3.out ▸ r_x) (B3.out ▸ B4.out)).mono ?_
  rintro e w7 ⟨rfl, hb⟩
  replace B := Lib.hid (below_next hb B.out (Nat.le_refl _))
  replace r_s := r_s.up hb
  replace r_x := r_x.up hb
  replace r_m := r_m.up hb
  replace r_r := r_r.up hb
  clear hb
  clear r_x
  go_wp2_with fail
  have lk := likeIntsV A_m A_s (n_s) (n_s) c_m c_s z_s z_s _ r_m r_s (by omega) (by omega)
  rw [eqI_self] at lk
  refine lk.mono ?_
  clear lk
  rintro e w8 ⟨rfl, hb⟩
  replace B := Lib.hid (below_next hb B.out (Nat.le_refl _))
  replace r_s := r_s.up hb
  replace r_m := r_m.up hb
  replace r_r := r_r.up hb
  clear hb
  go_wp2_with (go_at_call 56; refine (sumL_any A_r n_r c_r R _ r_r (fun i hi => RR.out.2.2.2 i (by rw [L_r.out]; exact hi)) (by have := RR.out.2.2.1; have := L_r.out; omega)).mono ?_; rw [RR.out.2.1]; rintro e w9 ⟨rfl, rfl⟩)
  go_ret
  exact ⟨rfl, B.out⟩

set_option maxRecDepth 100000 in
theorem lifted (os : Os) (started : os.Started) (H : Type) (enc : TypeId × Value → H) :
    ReturnsInHanded {} Try.checked os 13 .any (Rows.fnNominalSpec.pre6 enc Try.prog Try.f13 Rows.fnNominalRow.domain false) (Rows.fnNominalSpec.post enc Try.prog Try.f13 false true false false) := by
  refine returnsInHanded_of_change (C := Try.checked) own started (by kernel_rfl) Try.func13
    (ChangeSpec.witness6 (enc := enc) (C := Try.checked) false ⟨#[], #[.slice none 0 0], []⟩ 8 (by kernel_rfl) (by kernel_rfl) (by kernel_rfl) (by kernel_rfl)) ?_
  intro W base args ds gs before hval0 hW _ _
  have hval : ∀ (j : Nat) t v, Try.f13.params[j]? = some t → args[j]? = some v → Value.okWide Try.prog W .any base t v := hval0
  have hW' := hW
  obtain ⟨p, q, hA0, hV, rfl, hfz, hnd⟩ := hW
  have hA : DataW.TrodAll enc Try.prog W 0 (fun _ => true) true Try.f13.params.toList args.toList ds p := hA0
  rw [Try.params13] at hA hval
  obtain ⟨v0, vs0, d0, ds0, p0, q0, hargs, rfl, rfl, h0, r0⟩ := trodAll_cons hA
  obtain ⟨rfl, rfl, rfl⟩ := trodAll_nil r0
  obtain rfl : args = #[v0] := by cases args; simp_all
  obtain ⟨A0, n0, c0, bs0, rfl, hr0, hn0⟩ := arg_bytes Try.underlying39 Try.underlying5 (by kernel_rfl) (hval 0 39 v0 rfl rfl) h0
  refine (walk W A0 n0 c0 bs0 hr0 hn0).mono fun e W' ⟨he, hb⟩ => ?_
  subst he
  exact ⟨_, rfl, law_post laidOut (by
    rw [show Try.f13.params.toList = [39] from rfl]
    intro t ht
    rw [List.mem_singleton.1 ht]; exact ⟨by kernel_rfl, of_decide_eq_true (by kernel_rfl)⟩) rfl Try.underlying4 rfl rfl hW' hb⟩

set_option maxRecDepth 100000 in
theorem closed : joinedFacts Try.prog 13 Try.f13 Rows.fnNominalSpec Rows.fnNominalRow = true := by
  unfold joinedFacts
  rw [mayEnter_ok, liftsFinal_ok, make_ok]
  change _ = true
  kernel_rfl

theorem holds : Rows.FnNominalSaid :=
  OpenClaim.holds_of_wide 13 Try.f13 rfl rfl rfl rfl rfl rfl rfl ⟨rfl, rfl, rfl, rfl, rfl⟩ rfl rfl rfl rfl rfl (by kernel_rfl) Try.func13 closed
    (of_decide_eq_true (by kernel_rfl)) (by unfold Func.isWrapper; first | (rw [if_pos (by decide +kernel)]; kernel_rfl) | (rw [if_neg (by decide +kernel)]; exact ⟨rfl, rfl⟩))
    (fun os started H enc _ => lifted os started H enc)
end FnNominal
end Go.Proofs.Ytjehkjdehkdjcaa
