/- FnDecoder: decoding is voting first, for every code. Conditions: none. -/
import Derived.Test.YtjehkjdehkdjcaaB2
import Derived.Test.YtjehkjdehkdjcaaB9
import Derived.Test.YtjehkjdehkdjcaaB12
namespace Go.Proofs.Ytjehkjdehkdjcaa
open Go.ChangeShapes Go.WideShapes Go.ChangeAt Go.RowKit
namespace FnDecoder

set_option maxRecDepth 100000 in
set_option maxHeartbeats 16000000 in
theorem walk (w : World) (A : Option Addr) (n c : Nat) (bs : List Int) (h : RB w w.heap.size A n bs) (hn : n ≤ maxLen) :
    Calls Try.prog 10 #[.slice A n c] w fun e w' => e = .returned (.bool true) ∧ Below w.heap.size w w' := by
  rcases bool_cases (decide (4096 < n)) with hbig | hbig
  · go_enter Try.func10, Try.ntmps10
    go_wp2_with (go_at_call 21; refine (big_any _ _ _ _ hn).mono ?_; rw [hbig]; rintro e w' ⟨rfl, rfl⟩)
    go_ret
    exact ⟨rfl, Below.refl _ _⟩
  have hn4 : n ≤ 4096 := by simpa using hbig
  have B := Lib.hid (Below.refl w.heap.size w)
  go_enter Try.func10, Try.ntmps10
  go_wp2_with (go_at_call 21; refine (big_any _ _ _ _ hn).mono ?_; rw [hbig]; rintro e w' ⟨rfl, rfl⟩)
  clear hbig hn
  refine (drawDecodeSamples_any A n c bs _ ((h.below B.out (Nat.le_refl _)).more B.out.size) (by omega)).mono ?_
  rintro e w1 ⟨A_s, n_s, c_s, z_s, rfl, o_s, hn_s, hb⟩
  replace B := Lib.hid (below_next hb B.out (Nat.le_refl _))
  have r_s := o_s.reads
  have L_s := Lib.hid o_s.len
  have cap_s := o_s.cap
  have non_s := Lib.hid (own_none o_s)
  clear hb o_s
  obtain ⟨X, hX⟩ : ∃ x, DecodeSamples.res z_s = x := ⟨_, rfl⟩
  obtain ⟨q, hq⟩ : ∃ x, DecodeSamples.cod z_s = x := ⟨_, rfl⟩
  have HX := Lib.hid hX
  have HQ := Lib.hid hq
  clear cap_s non_s
  go_wp2_with fail
  refine (DecodeSamples.impl_any A_s n_s c_s z_s _ r_s (by omega) (by omega)).mono ?_
  rw [hX, hq]
  rintro e w2 ⟨A_x, n_x, c_x, rfl, o_x, hb⟩
  replace B := Lib.hid (below_next hb B.out (Nat.le_refl _))
  replace r_s := r_s.up hb
  have r_x := o_x.reads
  have L_x := Lib.hid o_x.len
  clear hb o_x
  go_wp2_with fail
  refine (DecodeSamples.spec_any A_s n_s c_s z_s _ r_s (by omega) (by omega)).mono ?_
  rw [hX, hq]
  rintro e w3 ⟨A_m, n_m, c_m, rfl, o_m, hb⟩
  replace B := Lib.hid (below_next hb B.out (Nat.le_refl _))
  replace r_s := r_s.up hb
  replace r_x := r_x.up hb
  have r_m := o_m.reads
  have L_m := Lib.hid o_m.len
  clear hb o_m
  have hlx : X.length ≤ 16384 := by rw [← hX]; exact Nat.le_trans (DecodeSamples.res_len z_s) (by rw [L_s.out]; exact hn_s)
  have hnx : n_x ≤ 16384 := by have := L_x.out; omega
  have hnm : n_m ≤ 16384 := by have := L_m.out; omega
  clear hX hq hlx
  rcases bool_cases (isBits z_s) with hz | hz
  case inr =>
    have hq1 : q = 1 := by rw [← HQ.out]; unfold DecodeSamples.cod; rw [hz]; rfl
    obtain rfl := hq1
    have e1 : VoteSamples.res z_s = [] := by unfold VoteSamples.res; rw [hz]; rfl
    have e2 : VoteSamples.cod z_s = 1 := by unfold VoteSamples.cod; rw [hz]; rfl
    go_wp2_with fail
    refine (VoteSamples.impl_any A_s n_s c_s z_s _ r_s (by omega)).mono ?_
    rw [e1, e2]
    clear e1 e2
    rintro e w4 ⟨A_v, n_v, c_v, rfl, o_v, hb⟩
    replace B := Lib.hid (below_next hb B.out (Nat.le_refl _))
    replace r_s := r_s.up hb
    replace r_x := r_x.up hb
    replace r_m := r_m.up hb
    have r_v := o_v.reads
    have L_v := Lib.hid o_v.len
    clear hb o_v
    go_wp2_with fail
    refine (likeIntsV A_x A_m n_x n_m c_x c_m X X _ r_x r_m (by omega) (by omega)).mono ?_
    rw [eqI_self]
    rintro e w5 ⟨rfl, hb⟩
    replace B := Lib.hid (below_next hb B.out (Nat.le_refl _))
    replace r_s := r_s.up hb
    replace r_x := r_x.up hb
    replace r_m := r_m.up hb
    replace r_v := r_v.up hb
    clear hb
    go_wp2
    go_ret
    exact ⟨rfl, B.out⟩
  have e1 : VoteSamples.res z_s = voted z_s := by unfold VoteSamples.res; rw [hz]; rfl
  have e2 : VoteSamples.cod z_s = 0 := by unfold VoteSamples.cod; rw [hz]; rfl
  have f1 : DecodeVoted.res (voted z_s) = X := by rw [← HX.out]; unfold DecodeSamples.res; rw [hz]; rfl
  have f2 : DecodeVoted.cod (voted z_s) = q := by rw [← HQ.out]; unfold DecodeSamples.cod; rw [hz]; rfl
  have F1 := Lib.hid f1
  have F2 := Lib.hid f2
  clear f1 f2
  go_wp2_with fail
  refine (VoteSamples.impl_any A_s n_s c_s z_s _ r_s (by omega)).mono ?_
  rw [e1, e2]
  clear e1 e2
  rintro e w4 ⟨A_v, n_v, c_v, rfl, o_v, hb⟩
  replace B := Lib.hid (below_next hb B.out (Nat.le_refl _))
  replace r_s := r_s.up hb
  replace r_x := r_x.up hb
  replace r_m := r_m.up hb
  have r_v := o_v.reads
  have L_v := Lib.hid o_v.len
  clear hb o_v
  have hnv : n_v ≤ 16384 := by have := L_v.out; rw [voted_len, L_s.out] at this; omega
  go_wp2_with fail
  refine (likeIntsV A_x A_m n_x n_m c_x c_m X X _ r_x r_m (by omega) (by omega)).mono ?_
  rw [eqI_self]
  rintro e w5 ⟨rfl, hb⟩
  replace B := Lib.hid (below_next hb B.out (Nat.le_refl _))
  replace r_s := r_s.up hb
  replace r_x := r_x.up hb
  replace r_m := r_m.up hb
  replace r_v := r_v.up hb
  clear hb
  go_wp2_with fail
  refine (DecodeVoted.impl_any A_v n_v c_v (voted z_s) _ r_v (by omega) (by omega)).mono ?_
  rw [F1.out, F2.out]
  rintro e w6 ⟨A_y, n_y, c_y, rfl, o_y, hb⟩
  replace B := Lib.hid (below_next hb B.out (Nat.le_refl _))
  replace r_s := r_s.up hb
  replace r_x := r_x.up hb
  replace r_m := r_m.up hb
  replace r_v := r_v.up hb
  have r_y := o_y.reads
  have L_y := Lib.hid o_y.len
  clear hb o_y
  have hny : n_y ≤ 16384 := by have := L_y.out; have := L_x.out; omega
  go_wp2_with fail
  refine (likeIntsV A_y A_x n_y n_x c_y c_x X X _ r_y r_x (by omega) (by omega)).mono ?_
  rw [eqI_self]
  rintro e w7 ⟨rfl, hb⟩
  replace B := Lib.hid (below_next hb B.out (Nat.le_refl _))
  replace r_s := r_s.up hb
  replace r_x := r_x.up hb
  replace r_m := r_m.up hb
  replace r_v := r_v.up hb
  replace r_y := r_y.up hb
  clear hb
  go_wp2
  go_ret
  exact ⟨rfl, B.out⟩

set_option maxRecDepth 100000 in
theorem lifted (os : Os) (started : os.Started) (H : Type) (enc : TypeId × Value → H) :
    ReturnsInHanded {} Try.checked os 10 .any (Rows.fnDecoderSpec.pre6 enc Try.prog Try.f10 Rows.fnDecoderRow.domain false) (Rows.fnDecoderSpec.post enc Try.prog Try.f10 false true false false) := by
  refine returnsInHanded_of_change (C := Try.checked) own started (by kernel_rfl) Try.func10
    (ChangeSpec.witness6 (enc := enc) (C := Try.checked) false ⟨#[], #[.slice none 0 0], []⟩ 8 (by kernel_rfl) (by kernel_rfl) (by kernel_rfl) (by kernel_rfl)) ?_
  intro W base args ds gs before hval0 hW _ _
  have hval : ∀ (j : Nat) t v, Try.f10.params[j]? = some t → args[j]? = some v → Value.okWide Try.prog W .any base t v := hval0
  have hW' := hW
  obtain ⟨p, q, hA0, hV, rfl, hfz, hnd⟩ := hW
  have hA : DataW.TrodAll enc Try.prog W 0 (fun _ => true) true Try.f10.params.toList args.toList ds p := hA0
  rw [Try.params10] at hA hval
  obtain ⟨v0, vs0, d0, ds0, p0, q0, hargs, rfl, rfl, h0, r0⟩ := trodAll_cons hA
  obtain ⟨rfl, rfl, rfl⟩ := trodAll_nil r0
  obtain rfl : args = #[v0] := by cases args; simp_all
  obtain ⟨A0, n0, c0, bs0, rfl, hr0, hn0⟩ := arg_bytes Try.underlying39 Try.underlying5 (by kernel_rfl) (hval 0 39 v0 rfl rfl) h0
  refine (walk W A0 n0 c0 bs0 hr0 hn0).mono fun e W' ⟨he, hb⟩ => ?_
  subst he
  exact ⟨_, rfl, law_post laidOut (by
    rw [show Try.f10.params.toList = [39] from rfl]
    intro t ht
    rw [List.mem_singleton.1 ht]; exact ⟨by kernel_rfl, of_decide_eq_true (by kernel_rfl)⟩) rfl Try.underlying4 rfl rfl hW' hb⟩

set_option maxRecDepth 100000 in
theorem closed : joinedFacts Try.prog 10 Try.f10 Rows.fnDecoderSpec Rows.fnDecoderRow = true := by
  unfold joinedFacts
  rw [mayEnter_ok, liftsFinal_ok, make_ok]
  change _ = true
  kernel_rfl

theorem holds : Rows.FnDecoderSaid :=
  OpenClaim.holds_of_wide 10 Try.f10 rfl rfl rfl rfl rfl rfl rfl ⟨rfl, rfl, rfl, rfl, rfl⟩ rfl rfl rfl rfl rfl (by kernel_rfl) Try.func10 closed
    (of_decide_eq_true (by kernel_rfl)) (by unfold Func.isWrapper; first | (rw [if_pos (by decide +kernel)]; kernel_rfl) | (rw [if_neg (by decide +kernel)]; exact ⟨rfl, rfl⟩))
    (fun os started H enc _ => lifted os started H enc)
end FnDecoder
end Go.Proofs.Ytjehkjdehkdjcaa
