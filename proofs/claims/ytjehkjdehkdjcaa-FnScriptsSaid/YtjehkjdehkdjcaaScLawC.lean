/- FnScripts: joined scripts are applied one after the other, and the length is as told, for every code. Conditions: none. -/
import Derived.Test.YtjehkjdehkdjcaaB2
import Derived.Test.YtjehkjdehkdjcaaB9
import Derived.Test.YtjehkjdehkdjcaaB13
import Derived.Test.YtjehkjdehkdjcaaB12
import Derived.Test.YtjehkjdehkdjcaaB7
import Derived.BigQuiet
import Derived.IntWalk
namespace Go.Proofs.Ytjehkjdehkdjcaa
open Go.ChangeShapes Go.WideShapes Go.ChangeAt Go.RowKit
namespace FnScripts

theorem isScript_app {a b : List Flt} (h1 : isScript a = true) (h2 : isScript b = true) (h : a.length + b.length ≤ 30) : isScript (a ++ b) = true := by
  unfold isScript at h1 h2 ⊢
  simp only [Bool.and_eq_true, decide_eq_true_eq] at h1 h2 ⊢
  exact ⟨by rw [List.length_append]; omega, by unfold allF at *; rw [List.all_append, h1.2, h2.2]; rfl⟩

set_option maxRecDepth 100000 in
set_option maxHeartbeats 16000000 in
theorem walk (w : World) (A : Option Addr) (n c : Nat) (bs : List Int) (h : RB w w.heap.size A n bs) (hn : n ≤ maxLen) :
    Calls Try.prog 8 #[.slice A n c] w fun e w' => e = .returned (.bool true) ∧ Below w.heap.size w w' := by
  rcases bool_cases (decide (4096 < n)) with hbig | hbig
  · go_enter Try.func8, Try.ntmps8
    go_wp2_with (go_at_call 21; refine (big_any _ _ _ _ hn).mono ?_; rw [hbig]; rintro e w' ⟨rfl, rfl⟩)
    go_ret
    exact ⟨rfl, Below.refl _ _⟩
  have hn4 : n ≤ 4096 := by simpa using hbig
  have B := Lib.hid (Below.refl w.heap.size w)
  go_enter Try.func8, Try.ntmps8
  go_wp2_with (go_at_call 21; refine (big_any _ _ _ _ hn).mono ?_; rw [hbig]; rintro e w' ⟨rfl, rfl⟩)
  clear hbig hn
  refine (drawApplyScript_any A n c bs _ ((h.below B.out (Nat.le_refl _)).more B.out.size) (by omega)).mono ?_
  rintro e w1 ⟨A_s, n_s, c_s, z_s, A_a, n_a, c_a, z_a, rfl, o_s, hn_s, o_a, hn_a, hb⟩
  replace B := Lib.hid (below_next hb B.out (Nat.le_refl _))
  have r_s := o_s.reads
  have L_s := Lib.hid o_s.len
  have r_a := o_a.reads encF_len
  have L_a := Lib.hid o_a.len
  have non_s := Lib.hid (own_none o_s)
  clear hb o_s o_a
  obtain ⟨X, hX⟩ : ∃ x, ApplyScript.res z_s z_a = x := ⟨_, rfl⟩
  obtain ⟨q, hq⟩ : ∃ x, bsCode z_s z_a = x := ⟨_, rfl⟩
  have HX := Lib.hid hX
  have HQ := Lib.hid hq
  have hXl : X.length ≤ 8192 := by rw [← hX]; exact ApplyScript.res_len _ _
  have HXL := Lib.hid hXl
  clear hX hq hXl
  go_wp2_with fail
  refine (ApplyScript.impl_any A_s n_s c_s z_s A_a n_a c_a z_a _ r_s (by omega) non_s.out r_a (by omega)).mono ?_
  rw [HX.out, HQ.out]
  rintro e w2 ⟨A_x, n_x, c_x, rfl, o_x, hb⟩
  replace B := Lib.hid (below_next hb B.out (Nat.le_refl _))
  replace r_s := r_s.up hb
  replace r_a := r_a.up hb
  have r_x := o_x.reads
  have L_x := Lib.hid o_x.len
  clear hb o_x
  go_wp2_with fail
  refine (ApplyScript.spec_any A_s n_s c_s z_s A_a n_a c_a z_a _ r_s (by omega) non_s.out r_a (by omega)).mono ?_
  rw [HX.out, HQ.out]
  rintro e w3 ⟨A_y, n_y, c_y, rfl, o_y, hb⟩
  replace B := Lib.hid (below_next hb B.out (Nat.le_refl _))
  replace r_s := r_s.up hb
  replace r_a := r_a.up hb
  replace r_x := r_x.up hb
  have r_y := o_y.reads
  have L_y := Lib.hid o_y.len
  clear hb o_y
  go_wp2_with fail
  refine (drawJoinScripts_any A n c bs _ ((h.below B.out (Nat.le_refl _)).more B.out.size) (by omega)).mono ?_
  rintro e w4 ⟨A_p, n_p, c_p, z_p, A_q, n_q, c_q, z_q, rfl, o_p, hn_p, o_q, hn_q, hb⟩
  replace B := Lib.hid (below_next hb B.out (Nat.le_refl _))
  replace r_s := r_s.up hb
  replace r_a := r_a.up hb
  replace r_x := r_x.up hb
  replace r_y := r_y.up hb
  have r_p := o_p.reads encF_len
  have L_p := Lib.hid o_p.len
  have r_q := o_q.reads encF_len
  have L_q := Lib.hid o_q.len
  have non_p := Lib.hid (o_p.none_cap)
  have non_q := Lib.hid (o_q.none_cap)
  clear hb o_p o_q
  obtain ⟨J, hJ⟩ : ∃ x, JoinScripts.res z_p z_q = x := ⟨_, rfl⟩
  obtain ⟨r, hr⟩ : ∃ x, JoinScripts.cod z_p z_q = x := ⟨_, rfl⟩
  have HJ := Lib.hid hJ
  have HR := Lib.hid hr
  have HJL := Lib.hid (show J.length ≤ 30 from by rw [← hJ]; exact JoinScripts.res_len _ _)
  clear hJ hr
  go_wp2_with fail
  refine (JoinScripts.impl_any A_p n_p c_p z_p A_q n_q c_q z_q _ r_p (by omega) non_p.out r_q (by omega) non_q.out).mono ?_
  rw [HJ.out, HR.out]
  rintro e w5 ⟨A_j, n_j, c_j, rfl, o_j, hb⟩
  replace B := Lib.hid (below_next hb B.out (Nat.le_refl _))
  replace r_s := r_s.up hb
  replace r_a := r_a.up hb
  replace r_x := r_x.up hb
  replace r_y := r_y.up hb
  replace r_p := r_p.up hb
  replace r_q := r_q.up hb
  have r_j := o_j.reads encF_len
  have L_j := Lib.hid o_j.len
  clear hb o_j
  go_wp2_with fail
  refine (JoinScripts.spec_any A_p n_p c_p z_p A_q n_q c_q z_q _ r_p (by omega) non_p.out r_q (by omega) non_q.out).mono ?_
  rw [HJ.out, HR.out]
  rintro e w6 ⟨A_k, n_k, c_k, rfl, o_k, hb⟩
  replace B := Lib.hid (below_next hb B.out (Nat.le_refl _))
  replace r_s := r_s.up hb
  replace r_a := r_a.up hb
  replace r_x := r_x.up hb
  replace r_y := r_y.up hb
  replace r_p := r_p.up hb
  replace r_q := r_q.up hb
  replace r_j := r_j.up hb
  have r_k := o_k.reads encF_len
  have L_k := Lib.hid o_k.len
  clear hb o_k
  obtain ⟨N, hN⟩ : ∃ x, X.length = x := ⟨_, rfl⟩
  have HN := Lib.hid hN
  have hNl := HXL.out
  rw [hN] at hNl
  have e_x : N = n_x := by have := L_x.out; omega
  subst e_x
  have e_y : N = n_y := by have := L_y.out; omega
  subst e_y
  clear hN
  obtain ⟨K, hK⟩ : ∃ x, J.length = x := ⟨_, rfl⟩
  have HK := Lib.hid hK
  have hKl := HJL.out
  rw [hK] at hKl
  have e_j : K = n_j := by have := L_j.out; omega
  subst e_j
  have e_k : K = n_k := by have := L_k.out; omega
  subst e_k
  clear hK
  go_wp2_with fail
  have lk := likeIntsV A_x A_y (N) (N) c_x c_y X X _ r_x r_y (by omega) (by omega)
  rw [eqI_self] at lk
  refine lk.mono ?_
  clear lk
  rintro e w7 ⟨rfl, hb⟩
  replace B := Lib.hid (below_next hb B.out (Nat.le_refl _))
  replace r_s := r_s.up hb
  replace r_a := r_a.up hb
  replace r_x := r_x.up hb
  replace r_y := r_y.up hb
  replace r_p := r_p.up hb
  replace r_q := r_q.up hb
  replace r_j := r_j.up hb
  replace r_k := r_k.up hb
  clear hb
  go_wp2_with fail
  have lk := likeFaultsV A_j A_k (K) c_j c_k J _ r_j r_k (by omega)
  refine lk.mono ?_
  clear lk
  rintro e w8 ⟨rfl, hb⟩
  replace B := Lib.hid (below_next hb B.out (Nat.le_refl _))
  replace r_s := r_s.up hb
  replace r_a := r_a.up hb
  replace r_x := r_x.up hb
  replace r_y := r_y.up hb
  replace r_p := r_p.up hb
  replace r_q := r_q.up hb
  replace r_j := r_j.up hb
  replace r_k := r_k.up hb
  clear hb
  go_wp2_with fail
  refine (iIsScript_any A_a n_a c_a z_a _ r_a (by omega)).mono ?_
  rintro e w9 ⟨rfl, hb⟩
  replace B := Lib.hid (below_next hb B.out (Nat.le_refl _))
  replace r_s := r_s.up hb
  replace r_a := r_a.up hb
  replace r_x := r_x.up hb
  replace r_y := r_y.up hb
  replace r_p := r_p.up hb
  replace r_q := r_q.up hb
  replace r_j := r_j.up hb
  replace r_k := r_k.up hb
  clear hb
  go_wp2_with fail
  refine (sIsScript_any A_a n_a c_a z_a _ r_a (by omega)).mono ?_
  rintro e w10 ⟨rfl, hb⟩
  replace B := Lib.hid (below_next hb B.out (Nat.le_refl _))
  replace r_s := r_s.up hb
  replace r_a := r_a.up hb
  replace r_x := r_x.up hb
  replace r_y := r_y.up hb
  replace r_p := r_p.up hb
  replace r_q := r_q.up hb
  replace r_j := r_j.up hb
  replace r_k := r_k.up hb
  clear hb
  rcases ne_cases q with rfl | ⟨h1, h2, h3⟩
  case inr =>
    go_wp2
    go_ret
    exact ⟨rfl, B.out⟩
  have HBI := Lib.hid (ApplyScript.bs_ok HQ.out).1
  have HSA := Lib.hid (ApplyScript.bs_ok HQ.out).2
  have hXe : X = appS z_s z_a := by rw [← HX.out]; unfold ApplyScript.res; rw [if_pos HQ.out]
  have HSL := Lib.hid (show n_s ≤ 8192 from by have := isBits_len HBI.out; have := L_s.out; omega)
  have V1 := Lib.hid (show LengthAfter.val (n_s : Int) z_a = (N : Int) from by
    have h0 : inR (n_s : Int) 0 8192 = true := by have := HSL.out; simp [inR]; omega
    unfold LengthAfter.val; rw [if_pos ⟨h0, HSA.out⟩, Int.toNat_natCast, ← HN.out, hXe, appS_len, L_s.out])
  have V2 := Lib.hid (show LengthAfter.cod (n_s : Int) z_a = 0 from by
    have h0 : inR (n_s : Int) 0 8192 = true := by have := HSL.out; simp [inR]; omega
    unfold LengthAfter.cod; rw [h0, HSA.out]; rfl)
  clear hXe
  go_wp2_with fail
  refine (LengthAfter.impl_any (n_s : Int) A_a n_a c_a z_a _ r_a (by omega)).mono ?_
  rw [V1.out, V2.out]
  rintro e w11 ⟨rfl, hb⟩
  replace B := Lib.hid (below_next hb B.out (Nat.le_refl _))
  replace r_s := r_s.up hb
  replace r_a := r_a.up hb
  replace r_x := r_x.up hb
  replace r_y := r_y.up hb
  replace r_p := r_p.up hb
  replace r_q := r_q.up hb
  replace r_j := r_j.up hb
  replace r_k := r_k.up hb
  clear hb
  rcases ne_cases r with rfl | ⟨h1, h2, h3⟩
  case inr =>
    go_wp2
    go_ret
    exact ⟨rfl, B.out⟩
  have hj : (isScript z_p = true ∧ isScript z_q = true) ∧ z_p.length + z_q.length ≤ 30 := by
    have h := HR.out
    unfold JoinScripts.cod at h
    split at h
    · rename_i h1; split at h
      · rename_i h2; exact ⟨h1, h2⟩
      · exact absurd h (by decide)
    · exact absurd h (by decide)
  have hJe : J = z_p ++ z_q := by rw [← HJ.out]; unfold JoinScripts.res; rw [if_pos ⟨hj.1.1, hj.1.2, hj.2⟩]
  have hsj : isScript (z_p ++ z_q) = true := isScript_app hj.1.1 hj.1.2 hj.2
  have b1 : bsCode z_s z_p = 0 := ApplyScript.bs_of HBI.out hj.1.1
  have b2 : bsCode (appS z_s z_p) z_q = 0 := ApplyScript.bs_of (appS_bits HBI.out (isScript_all hj.1.1)) hj.1.2
  have b3 : bsCode z_s J = 0 := by rw [hJe]; exact ApplyScript.bs_of HBI.out hsj
  have e1 : ApplyScript.res z_s z_p = appS z_s z_p := by unfold ApplyScript.res; rw [if_pos b1]
  have e2 : ApplyScript.res (appS z_s z_p) z_q = appS (appS z_s z_p) z_q := by unfold ApplyScript.res; rw [if_pos b2]
  have e3 : ApplyScript.res z_s J = appS (appS z_s z_p) z_q := by unfold ApplyScript.res; rw [if_pos b3, hJe]; exact List.foldl_append
  obtain ⟨Y, hY⟩ : ∃ x, appS z_s z_p = x := ⟨_, rfl⟩
  have hyl : Y.length ≤ 8192 := by rw [← hY, ← e1]; exact ApplyScript.res_len _ _
  rw [hY] at e1 e2 e3 b2
  obtain ⟨Z, hZ⟩ : ∃ x, appS Y z_q = x := ⟨_, rfl⟩
  rw [hZ] at e2 e3
  have hzl : Z.length ≤ 8192 := by rw [← e2]; exact ApplyScript.res_len _ _
  have B1 := Lib.hid b1
  have B2 := Lib.hid b2
  have B3 := Lib.hid b3
  have E1 := Lib.hid e1
  have E2 := Lib.hid e2
  have E3 := Lib.hid e3
  clear hj hJe hsj b1 b2 b3 e1 e2 e3 hY hZ
  clear r_x
  clear r_y
  clear r_k
  go_wp2_with fail
  refine (ApplyScript.impl_any A_s n_s c_s z_s A_p n_p c_p z_p _ r_s (by omega) non_s.out r_p (by omega)).mono ?_
  rw [E1.out, B1.out]
  rintro e w12 ⟨A_u, n_u, c_u, rfl, o_u, hb⟩
  replace B := Lib.hid (below_next hb B.out (Nat.le_refl _))
  replace r_s := r_s.up hb
  replace r_a := r_a.up hb
  replace r_p := r_p.up hb
  replace r_q := r_q.up hb
  replace r_j := r_j.up hb
  have r_u := o_u.reads
  have L_u := Lib.hid o_u.len
  have non_u := Lib.hid (own_none o_u)
  clear hb o_u
  have hu : n_u ≤ 8192 := by have := L_u.out; omega
  go_wp2_with fail
  refine (ApplyScript.impl_any A_u n_u c_u Y A_q n_q c_q z_q _ r_u (by omega) non_u.out r_q (by omega)).mono ?_
  rw [E2.out, B2.out]
  rintro e w13 ⟨A_v, n_v, c_v, rfl, o_v, hb⟩
  replace B := Lib.hid (below_next hb B.out (Nat.le_refl _))
  replace r_s := r_s.up hb
  replace r_a := r_a.up hb
  replace r_p := r_p.up hb
  replace r_q := r_q.up hb
  replace r_j := r_j.up hb
  replace r_u := r_u.up hb
  have r_v := o_v.reads
  have L_v := Lib.hid o_v.len
  clear hb o_v
  go_wp2_with fail
  refine (ApplyScript.impl_any A_s n_s c_s z_s A_j K c_j J _ r_s (by omega) non_s.out r_j (by omega)).mono ?_
  rw [E3.out, B3.out]
  rintro e w14 ⟨A_t, n_t, c_t, rfl, o_t, hb⟩
  replace B := Lib.hid (below_next hb B.out (Nat.le_refl _))
  replace r_s := r_s.up hb
  replace r_a := r_a.up hb
  replace r_p := r_p.up hb
  replace r_q := r_q.up hb
  replace r_j := r_j.up hb
  replace r_u := r_u.up hb
  replace r_v := r_v.up hb
  have r_t := o_t.reads
  have L_t := Lib.hid o_t.len
  clear hb o_t
  have hv : n_v ≤ 8192 := by have := L_v.out; omega
  have ht : n_t ≤ 8192 := by have := L_t.out; omega
  go_wp2_with fail
  have lk := likeIntsV A_v A_t (n_v) (n_t) c_v c_t Z Z _ r_v r_t (by omega) (by omega)
  rw [eqI_self] at lk
  refine lk.mono ?_
  clear lk
  rintro e w15 ⟨rfl, hb⟩
  replace B := Lib.hid (below_next hb B.out (Nat.le_refl _))
  replace r_s := r_s.up hb
  replace r_a := r_a.up hb
  replace r_p := r_p.up hb
  replace r_q := r_q.up hb
  replace r_j := r_j.up hb
  replace r_u := r_u.up hb
  replace r_v := r_v.up hb
  replace r_t := r_t.up hb
  clear hb
  go_wp2
  go_ret
  exact ⟨rfl, B.out⟩

set_option maxRecDepth 100000 in
theorem lifted (os : Os) (started : os.Started) (H : Type) (enc : TypeId × Value → H) :
    ReturnsInHanded {} Try.checked os 8 .any (Rows.fnScriptsSpec.pre6 enc Try.prog Try.f8 Rows.fnScriptsRow.domain false) (Rows.fnScriptsSpec.post enc Try.prog Try.f8 false true false false) := by
  refine returnsInHanded_of_change (C := Try.checked) own started (by kernel_rfl) Try.func8
    (ChangeSpec.witness6 (enc := enc) (C := Try.checked) false ⟨#[], #[.slice none 0 0], []⟩ 8 (by kernel_rfl) (by kernel_rfl) (by kernel_rfl) (by kernel_rfl)) ?_
  intro W base args ds gs before hval0 hW _ _
  have hval : ∀ (j : Nat) t v, Try.f8.params[j]? = some t → args[j]? = some v → Value.okWide Try.prog W .any base t v := hval0
  have hW' := hW
  obtain ⟨p, q, hA0, hV, rfl, hfz, hnd⟩ := hW
  have hA : DataW.TrodAll enc Try.prog W 0 (fun _ => true) true Try.f8.params.toList args.toList ds p := hA0
  rw [Try.params8] at hA hval
  obtain ⟨v0, vs0, d0, ds0, p0, q0, hargs, rfl, rfl, h0, r0⟩ := trodAll_cons hA
  obtain ⟨rfl, rfl, rfl⟩ := trodAll_nil r0
  obtain rfl : args = #[v0] := by cases args; simp_all
  obtain ⟨A0, n0, c0, bs0, rfl, hr0, hn0⟩ := arg_bytes Try.underlying39 Try.underlying5 (by kernel_rfl) (hval 0 39 v0 rfl rfl) h0
  refine (walk W A0 n0 c0 bs0 hr0 hn0).mono fun e W' ⟨he, hb⟩ => ?_
  subst he
  exact ⟨_, rfl, law_post laidOut (by
    rw [show Try.f8.params.toList = [39] from rfl]
    intro t ht
    rw [List.mem_singleton.1 ht]; exact ⟨by kernel_rfl, of_decide_eq_true (by kernel_rfl)⟩) rfl Try.underlying4 rfl rfl hW' hb⟩

set_option maxRecDepth 100000 in
theorem closed : joinedFacts Try.prog 8 Try.f8 Rows.fnScriptsSpec Rows.fnScriptsRow = true := by
  unfold joinedFacts
  rw [mayEnter_ok, liftsFinal_ok, make_ok]
  change _ = true
  kernel_rfl

theorem holds : Rows.FnScriptsSaid :=
  OpenClaim.holds_of_wide 8 Try.f8 rfl rfl rfl rfl rfl rfl rfl ⟨rfl, rfl, rfl, rfl, rfl⟩ rfl rfl rfl rfl rfl (by kernel_rfl) Try.func8 closed
    (of_decide_eq_true (by kernel_rfl)) (by unfold Func.isWrapper; first | (rw [if_pos (by decide +kernel)]; kernel_rfl) | (rw [if_neg (by decide +kernel)]; exact ⟨rfl, rfl⟩))
    (fun os started H enc _ => lifted os started H enc)
end FnScripts
end Go.Proofs.Ytjehkjdehkdjcaa
