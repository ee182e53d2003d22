/- FnFlipScripts: a list of flips and its script lead to each other, for every code. Conditions: none. -/
import Derived.Test.YtjehkjdehkdjcaaB2
import Derived.Test.YtjehkjdehkdjcaaB9
import Derived.Test.YtjehkjdehkdjcaaB14
import Derived.Test.YtjehkjdehkdjcaaB12
import Derived.Test.YtjehkjdehkdjcaaB13
import Derived.Test.YtjehkjdehkdjcaaB7
import Derived.Test.YtjehkjdehkdjcaaB15
import Derived.BigQuiet
import Derived.IntWalk
namespace Go.Proofs.Ytjehkjdehkdjcaa
open Go.ChangeShapes Go.WideShapes Go.ChangeAt Go.RowKit
namespace FnFlipScripts

set_option maxRecDepth 100000 in
set_option maxHeartbeats 16000000 in
theorem walk (w : World) (A : Option Addr) (n c : Nat) (bs : List Int) (h : RB w w.heap.size A n bs) (hn : n ≤ maxLen) :
    Calls Try.prog 9 #[.slice A n c] w fun e w' => e = .returned (.bool true) ∧ Below w.heap.size w w' := by
  rcases bool_cases (decide (4096 < n)) with hbig | hbig
  · go_enter Try.func9, Try.ntmps9
    go_wp2_with (go_at_call 21; refine (big_any _ _ _ _ hn).mono ?_; rw [hbig]; rintro e w' ⟨rfl, rfl⟩)
    go_ret
    exact ⟨rfl, Below.refl _ _⟩
  have hn4 : n ≤ 4096 := by simpa using hbig
  have B := Lib.hid (Below.refl w.heap.size w)
  go_enter Try.func9, Try.ntmps9
  go_wp2_with (go_at_call 21; refine (big_any _ _ _ _ hn).mono ?_; rw [hbig]; rintro e w' ⟨rfl, rfl⟩)
  clear hbig hn
  refine (drawFlipsOf_any A n c bs _ ((h.below B.out (Nat.le_refl _)).more B.out.size) (by omega)).mono ?_
  rintro e w1 ⟨A_a, n_a, c_a, z_a, rfl, o_a, hn_a, hb⟩
  replace B := Lib.hid (below_next hb B.out (Nat.le_refl _))
  have r_a := o_a.reads encF_len
  have L_a := Lib.hid o_a.len
  clear hb o_a
  obtain ⟨F, hF⟩ : ∃ x, FlipsOf.res z_a = x := ⟨_, rfl⟩
  obtain ⟨q, hq⟩ : ∃ x, FlipsOf.cod z_a = x := ⟨_, rfl⟩
  have HF := Lib.hid hF
  have HQ := Lib.hid hq
  have hFl : F.length ≤ 8193 := by rw [← hF]; exact FlipsOf.res_len _
  have HFL := Lib.hid hFl
  clear hF hq hFl
  go_wp2_with fail
  refine (FlipsOf.impl_any A_a n_a c_a z_a _ r_a (by omega)).mono ?_
  rw [HF.out, HQ.out]
  rintro e w2 ⟨A_f, n_f, c_f, rfl, o_f, hb⟩
  replace B := Lib.hid (below_next hb B.out (Nat.le_refl _))
  replace r_a := r_a.up hb
  have r_f := o_f.reads
  have L_f := Lib.hid o_f.len
  clear hb o_f
  go_wp2_with fail
  refine (FlipsOf.spec_any A_a n_a c_a z_a _ r_a (by omega)).mono ?_
  rw [HF.out, HQ.out]
  rintro e w3 ⟨A_g, n_g, c_g, rfl, o_g, hb⟩
  replace B := Lib.hid (below_next hb B.out (Nat.le_refl _))
  replace r_a := r_a.up hb
  replace r_f := r_f.up hb
  have r_g := o_g.reads
  have L_g := Lib.hid o_g.len
  clear hb o_g
  go_wp2_with fail
  refine (drawFlipScript_any A n c bs _ ((h.below B.out (Nat.le_refl _)).more B.out.size) (by omega)).mono ?_
  rintro e w4 ⟨A_t, n_t, c_t, z_t, rfl, o_t, hn_t, hb⟩
  replace B := Lib.hid (below_next hb B.out (Nat.le_refl _))
  replace r_a := r_a.up hb
  replace r_f := r_f.up hb
  replace r_g := r_g.up hb
  have r_t := o_t.reads
  have L_t := Lib.hid o_t.len
  clear hb o_t
  obtain ⟨X, hX⟩ : ∃ x, FlipScript.res z_t = x := ⟨_, rfl⟩
  obtain ⟨r, hr⟩ : ∃ x, FlipScript.cod z_t = x := ⟨_, rfl⟩
  have HX := Lib.hid hX
  have HR := Lib.hid hr
  have hXl : X.length ≤ 8200 := by rw [← hX]; exact Nat.le_trans (FlipScript.res_len _) (by rw [L_t.out]; exact hn_t)
  have HXL := Lib.hid hXl
  clear hX hr hXl
  go_wp2_with fail
  refine (FlipScript.impl_any A_t n_t c_t z_t _ r_t (by omega)).mono ?_
  rw [HX.out, HR.out]
  rintro e w5 ⟨A_x, n_x, c_x, rfl, o_x, hb⟩
  replace B := Lib.hid (below_next hb B.out (Nat.le_refl _))
  replace r_a := r_a.up hb
  replace r_f := r_f.up hb
  replace r_g := r_g.up hb
  replace r_t := r_t.up hb
  have r_x := o_x.reads encF_len
  have L_x := Lib.hid o_x.len
  clear hb o_x
  go_wp2_with fail
  refine (FlipScript.spec_any A_t n_t c_t z_t _ r_t (by omega)).mono ?_
  rw [HX.out, HR.out]
  rintro e w6 ⟨A_m, n_m, c_m, rfl, o_m, hb⟩
  replace B := Lib.hid (below_next hb B.out (Nat.le_refl _))
  replace r_a := r_a.up hb
  replace r_f := r_f.up hb
  replace r_g := r_g.up hb
  replace r_t := r_t.up hb
  replace r_x := r_x.up hb
  have r_m := o_m.reads encF_len
  have L_m := Lib.hid o_m.len
  clear hb o_m
  obtain ⟨N, hN⟩ : ∃ x, F.length = x := ⟨_, rfl⟩
  have HN := Lib.hid hN
  have hNl := HFL.out
  rw [hN] at hNl
  have e_f : N = n_f := by have := L_f.out; omega
  subst e_f
  have e_g : N = n_g := by have := L_g.out; omega
  subst e_g
  clear hN
  obtain ⟨K, hK⟩ : ∃ x, X.length = x := ⟨_, rfl⟩
  have HK := Lib.hid hK
  have hKl := HXL.out
  rw [hK] at hKl
  have e_x : K = n_x := by have := L_x.out; omega
  subst e_x
  have e_m : K = n_m := by have := L_m.out; omega
  subst e_m
  clear hK
  go_wp2_with fail
  have lk := likeIntsV A_f A_g (N) (N) c_f c_g F F _ r_f r_g (by omega) (by omega)
  rw [eqI_self] at lk
  refine lk.mono ?_
  clear lk
  rintro e w7 ⟨rfl, hb⟩
  replace B := Lib.hid (below_next hb B.out (Nat.le_refl _))
  replace r_a := r_a.up hb
  replace r_f := r_f.up hb
  replace r_g := r_g.up hb
  replace r_t := r_t.up hb
  replace r_x := r_x.up hb
  replace r_m := r_m.up hb
  clear hb
  go_wp2_with fail
  have lk := likeFaultsV A_x A_m (K) c_x c_m X _ r_x r_m (by omega)
  refine lk.mono ?_
  clear lk
  rintro e w8 ⟨rfl, hb⟩
  replace B := Lib.hid (below_next hb B.out (Nat.le_refl _))
  replace r_a := r_a.up hb
  replace r_f := r_f.up hb
  replace r_g := r_g.up hb
  replace r_t := r_t.up hb
  replace r_x := r_x.up hb
  replace r_m := r_m.up hb
  clear hb
  rcases ne_cases r with rfl | ⟨h1, h2, h3⟩
  case inl =>
    obtain ⟨k1, k2⟩ := FlipP.back HR.out
    rw [HX.out] at k1 k2
    have K1 := Lib.hid k1
    have K2 := Lib.hid k2
    clear k1 k2
    go_wp2_with fail
    refine (FlipsOf.impl_any A_x K c_x X _ r_x (by omega)).mono ?_
    rw [K1.out, K2.out]
    rintro e w9 ⟨A_b, n_b, c_b, rfl, o_b, hb⟩
    replace B := Lib.hid (below_next hb B.out (Nat.le_refl _))
    replace r_a := r_a.up hb
    replace r_f := r_f.up hb
    replace r_g := r_g.up hb
    replace r_t := r_t.up hb
    replace r_x := r_x.up hb
    replace r_m := r_m.up hb
    have r_b := o_b.reads
    have L_b := Lib.hid o_b.len
    clear hb o_b
    have hb8 : n_b ≤ 8200 := by have := L_b.out; have := L_t.out; omega
    go_wp2_with fail
    have lk := likeIntsV A_b A_t (n_b) (n_t) c_b c_t z_t z_t _ r_b r_t (by omega) (by omega)
    rw [eqI_self] at lk
    refine lk.mono ?_
    clear lk
    rintro e w10 ⟨rfl, hb⟩
    replace B := Lib.hid (below_next hb B.out (Nat.le_refl _))
    replace r_a := r_a.up hb
    replace r_f := r_f.up hb
    replace r_g := r_g.up hb
    replace r_t := r_t.up hb
    replace r_x := r_x.up hb
    replace r_m := r_m.up hb
    replace r_b := r_b.up hb
    clear hb
    rcases ne_cases q with rfl | ⟨g1, g2, g3⟩
    case inr =>
      go_wp2
      go_ret
      exact ⟨rfl, B.out⟩
    obtain ⟨s1, s2, s3, s4⟩ := FlipP.again HQ.out
    rw [HF.out] at s2 s3 s4
    obtain ⟨Y, hY⟩ : ∃ x, FlipScript.res F = x := ⟨_, rfl⟩
    rw [hY] at s3 s4
    have HY := Lib.hid hY
    have Y0 := Lib.hid s2
    have hyl : Y.length ≤ 30 := (FlipsOf.isScript_parts s3).1
    have HYL := Lib.hid hyl
    have e1 := s4 (List.replicate 40 0) (by simp)
    obtain ⟨Z, hZ⟩ : ∃ x, appS (List.replicate 40 0) z_a = x := ⟨_, rfl⟩
    rw [hZ] at e1
    have b0 : isBits (List.replicate 40 0) = true := LengthAfter.zeros_bits (by omega)
    have b1 : bsCode (List.replicate 40 0) z_a = 0 := ApplyScript.bs_of b0 s1
    have b2 : bsCode (List.replicate 40 0) Y = 0 := ApplyScript.bs_of b0 s3
    have r1 : ApplyScript.res (List.replicate 40 0) z_a = Z := by unfold ApplyScript.res; rw [if_pos b1, hZ]
    have r2 : ApplyScript.res (List.replicate 40 0) Y = Z := by unfold ApplyScript.res; rw [if_pos b2, e1]
    have hzl : Z.length ≤ 8192 := by rw [← r1]; exact ApplyScript.res_len _ _
    have B1 := Lib.hid b1
    have B2 := Lib.hid b2
    have R1 := Lib.hid r1
    have R2 := Lib.hid r2
    have HZL := Lib.hid hzl
    clear s1 s2 s3 s4 hY hyl e1 hZ b0 b1 b2 r1 r2 hzl
    clear r_g
    clear r_t
    clear r_x
    clear r_m
    clear r_b
    go_wp2_with fail
    refine (FlipScript.impl_any A_f N c_f F _ r_f (by omega)).mono ?_
    rw [HY.out, Y0.out]
    rintro e w11 ⟨A_y, n_y, c_y, rfl, o_y, hb⟩
    replace B := Lib.hid (below_next hb B.out (Nat.le_refl _))
    replace r_a := r_a.up hb
    replace r_f := r_f.up hb
    have r_y := o_y.reads encF_len
    have L_y := Lib.hid o_y.len
    clear hb o_y
    have hy30 : n_y ≤ 30 := by have := L_y.out; have := HYL.out; omega
    go_wp2_with (with_reducible refine wpl_make _ Try.underlying24 infoInt rfl _ _ rfl 40 rfl rfl (by omega) ?_; intro w12 o_z hgz)
    have hb := (Below.refl w11.heap.size w11).grown hgz (Nat.le_refl _) (fun g e => by cases e)
    replace B := Lib.hid (below_next hb B.out (Nat.le_refl _))
    replace r_a := r_a.up hb
    replace r_f := r_f.up hb
    replace r_y := r_y.up hb
    have r_z := o_z.reads
    clear hb hgz o_z
    refine (ApplyScript.impl_any _ 40 40 (List.replicate 40 0) A_a n_a c_a z_a _ r_z (by omega) (fun e => by cases e) r_a (by omega)).mono ?_
    rw [R1.out, B1.out]
    rintro e w13 ⟨A_p, n_p, c_p, rfl, o_p, hb⟩
    replace B := Lib.hid (below_next hb B.out (Nat.le_refl _))
    replace r_a := r_a.up hb
    replace r_f := r_f.up hb
    replace r_y := r_y.up hb
    replace r_z := r_z.up hb
    have r_p := o_p.reads
    have L_p := Lib.hid o_p.len
    clear hb o_p
    go_wp2_with fail
    refine (ApplyScript.impl_any _ 40 40 (List.replicate 40 0) A_y n_y c_y Y _ r_z (by omega) (fun e => by cases e) r_y (by omega)).mono ?_
    rw [R2.out, B2.out]
    rintro e w14 ⟨A_q, n_q, c_q, rfl, o_q, hb⟩
    replace B := Lib.hid (below_next hb B.out (Nat.le_refl _))
    replace r_a := r_a.up hb
    replace r_f := r_f.up hb
    replace r_y := r_y.up hb
    replace r_z := r_z.up hb
    replace r_p := r_p.up hb
    have r_q := o_q.reads
    have L_q := Lib.hid o_q.len
    clear hb o_q
    have hp8 : n_p ≤ 8192 := by have := L_p.out; have := HZL.out; omega
    have hq8 : n_q ≤ 8192 := by have := L_q.out; have := HZL.out; omega
    go_wp2_with fail
    have lk := likeIntsV A_p A_q (n_p) (n_q) c_p c_q Z Z _ r_p r_q (by omega) (by omega)
    rw [eqI_self] at lk
    refine lk.mono ?_
    clear lk
    rintro e w15 ⟨rfl, hb⟩
    replace B := Lib.hid (below_next hb B.out (Nat.le_refl _))
    replace r_a := r_a.up hb
    replace r_f := r_f.up hb
    replace r_y := r_y.up hb
    replace r_z := r_z.up hb
    replace r_p := r_p.up hb
    replace r_q := r_q.up hb
    clear hb
    go_wp2
    go_ret
    exact ⟨rfl, B.out⟩
  case inr =>
    rcases ne_cases q with rfl | ⟨g1, g2, g3⟩
    case inr =>
      go_wp2
      go_ret
      exact ⟨rfl, B.out⟩
    obtain ⟨s1, s2, s3, s4⟩ := FlipP.again HQ.out
    rw [HF.out] at s2 s3 s4
    obtain ⟨Y, hY⟩ : ∃ x, FlipScript.res F = x := ⟨_, rfl⟩
    rw [hY] at s3 s4
    have HY := Lib.hid hY
    have Y0 := Lib.hid s2
    have hyl : Y.length ≤ 30 := (FlipsOf.isScript_parts s3).1
    have HYL := Lib.hid hyl
    have e1 := s4 (List.replicate 40 0) (by simp)
    obtain ⟨Z, hZ⟩ : ∃ x, appS (List.replicate 40 0) z_a = x := ⟨_, rfl⟩
    rw [hZ] at e1
    have b0 : isBits (List.replicate 40 0) = true := LengthAfter.zeros_bits (by omega)
    have b1 : bsCode (List.replicate 40 0) z_a = 0 := ApplyScript.bs_of b0 s1
    have b2 : bsCode (List.replicate 40 0) Y = 0 := ApplyScript.bs_of b0 s3
    have r1 : ApplyScript.res (List.replicate 40 0) z_a = Z := by unfold ApplyScript.res; rw [if_pos b1, hZ]
    have r2 : ApplyScript.res (List.replicate 40 0) Y = Z := by unfold ApplyScript.res; rw [if_pos b2, e1]
    have hzl : Z.length ≤ 8192 := by rw [← r1]; exact ApplyScript.res_len _ _
    have B1 := Lib.hid b1
    have B2 := Lib.hid b2
    have R1 := Lib.hid r1
    have R2 := Lib.hid r2
    have HZL := Lib.hid hzl
    clear s1 s2 s3 s4 hY hyl e1 hZ b0 b1 b2 r1 r2 hzl
    clear r_g
    clear r_t
    clear r_x
    clear r_m
    go_wp2_with fail
    refine (FlipScript.impl_any A_f N c_f F _ r_f (by omega)).mono ?_
    rw [HY.out, Y0.out]
    rintro e w9 ⟨A_y, n_y, c_y, rfl, o_y, hb⟩
    replace B := Lib.hid (below_next hb B.out (Nat.le_refl _))
    replace r_a := r_a.up hb
    replace r_f := r_f.up hb
    have r_y := o_y.reads encF_len
    have L_y := Lib.hid o_y.len
    clear hb o_y
    have hy30 : n_y ≤ 30 := by have := L_y.out; have := HYL.out; omega
    go_wp2_with (with_reducible refine wpl_make _ Try.underlying24 infoInt rfl _ _ rfl 40 rfl rfl (by omega) ?_; intro w10 o_z hgz)
    have hb := (Below.refl w9.heap.size w9).grown hgz (Nat.le_refl _) (fun g e => by cases e)
    replace B := Lib.hid (below_next hb B.out (Nat.le_refl _))
    replace r_a := r_a.up hb
    replace r_f := r_f.up hb
    replace r_y := r_y.up hb
    have r_z := o_z.reads
    clear hb hgz o_z
    refine (ApplyScript.impl_any _ 40 40 (List.replicate 40 0) A_a n_a c_a z_a _ r_z (by omega) (fun e => by cases e) r_a (by omega)).mono ?_
    rw [R1.out, B1.out]
    rintro e w11 ⟨A_p, n_p, c_p, rfl, o_p, hb⟩
    replace B := Lib.hid (below_next hb B.out (Nat.le_refl _))
    replace r_a := r_a.up hb
    replace r_f := r_f.up hb
    replace r_y := r_y.up hb
    replace r_z := r_z.up hb
    have r_p := o_p.reads
    have L_p := Lib.hid o_p.len
    clear hb o_p
    go_wp2_with fail
    refine (ApplyScript.impl_any _ 40 40 (List.replicate 40 0) A_y n_y c_y Y _ r_z (by omega) (fun e => by cases e) r_y (by omega)).mono ?_
    rw [R2.out, B2.out]
    rintro e w12 ⟨A_q, n_q, c_q, rfl, o_q, hb⟩
    replace B := Lib.hid (below_next hb B.out (Nat.le_refl _))
    replace r_a := r_a.up hb
    replace r_f := r_f.up hb
    replace r_y := r_y.up hb
    replace r_z := r_z.up hb
    replace r_p := r_p.up hb
    have r_q := o_q.reads
    have L_q := Lib.hid o_q.len
    clear hb o_q
    have hp8 : n_p ≤ 8192 := by have := L_p.out; have := HZL.out; omega
    have hq8 : n_q ≤ 8192 := by have := L_q.out; have := HZL.out; omega
    go_wp2_with fail
    have lk := likeIntsV A_p A_q (n_p) (n_q) c_p c_q Z Z _ r_p r_q (by omega) (by omega)
    rw [eqI_self] at lk
    refine lk.mono ?_
    clear lk
    rintro e w13 ⟨rfl, hb⟩
    replace B := Lib.hid (below_next hb B.out (Nat.le_refl _))
    replace r_a := r_a.up hb
    replace r_f := r_f.up hb
    replace r_y := r_y.up hb
    replace r_z := r_z.up hb
    replace r_p := r_p.up hb
    replace r_q := r_q.up hb
    clear hb
    go_wp2
    go_ret
    exact ⟨rfl, B.out⟩

set_option maxRecDepth 100000 in
theorem lifted (os : Os) (started : os.Started) (H : Type) (enc : TypeId × Value → H) :
    ReturnsInHanded {} Try.checked os 9 .any (Rows.fnFlipScriptsSpec.pre6 enc Try.prog Try.f9 Rows.fnFlipScriptsRow.domain false) (Rows.fnFlipScriptsSpec.post enc Try.prog Try.f9 false true false false) := by
  refine returnsInHanded_of_change (C := Try.checked) own started (by kernel_rfl) Try.func9
    (ChangeSpec.witness6 (enc := enc) (C := Try.checked) false ⟨#[], #[.slice none 0 0], []⟩ 8 (by kernel_rfl) (by kernel_rfl) (by kernel_rfl) (by kernel_rfl)) ?_
  intro W base args ds gs before hval0 hW _ _
  have hval : ∀ (j : Nat) t v, Try.f9.params[j]? = some t → args[j]? = some v → Value.okWide Try.prog W .any base t v := hval0
  have hW' := hW
  obtain ⟨p, q, hA0, hV, rfl, hfz, hnd⟩ := hW
  have hA : DataW.TrodAll enc Try.prog W 0 (fun _ => true) true Try.f9.params.toList args.toList ds p := hA0
  rw [Try.params9] at hA hval
  obtain ⟨v0, vs0, d0, ds0, p0, q0, hargs, rfl, rfl, h0, r0⟩ := trodAll_cons hA
  obtain ⟨rfl, rfl, rfl⟩ := trodAll_nil r0
  obtain rfl : args = #[v0] := by cases args; simp_all
  obtain ⟨A0, n0, c0, bs0, rfl, hr0, hn0⟩ := arg_bytes Try.underlying39 Try.underlying5 (by kernel_rfl) (hval 0 39 v0 rfl rfl) h0
  refine (walk W A0 n0 c0 bs0 hr0 hn0).mono fun e W' ⟨he, hb⟩ => ?_
  subst he
  exact ⟨_, rfl, law_post laidOut (by
    rw [show Try.f9.params.toList = [39] from rfl]
    intro t ht
    rw [List.mem_singleton.1 ht]; exact ⟨by kernel_rfl, of_decide_eq_true (by kernel_rfl)⟩) rfl Try.underlying4 rfl rfl hW' hb⟩

set_option maxRecDepth 100000 in
theorem closed : joinedFacts Try.prog 9 Try.f9 Rows.fnFlipScriptsSpec Rows.fnFlipScriptsRow = true := by
  unfold joinedFacts
  rw [mayEnter_ok, liftsFinal_ok, make_ok]
  change _ = true
  kernel_rfl

theorem holds : Rows.FnFlipScriptsSaid :=
  OpenClaim.holds_of_wide 9 Try.f9 rfl rfl rfl rfl rfl rfl rfl ⟨rfl, rfl, rfl, rfl, rfl⟩ rfl rfl rfl rfl rfl (by kernel_rfl) Try.func9 closed
    (of_decide_eq_true (by kernel_rfl)) (by unfold Func.isWrapper; first | (rw [if_pos (by decide +kernel)]; kernel_rfl) | (rw [if_neg (by decide +kernel)]; exact ⟨rfl, rfl⟩))
    (fun os started H enc _ => lifted os started H enc)
end FnFlipScripts
end Go.Proofs.Ytjehkjdehkdjcaa
