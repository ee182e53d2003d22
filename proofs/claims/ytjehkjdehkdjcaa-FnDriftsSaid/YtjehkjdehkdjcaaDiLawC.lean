/- FnDrifts: drifts of edges are less than half a cell, and rounding whole cells changes nothing, for every code. Conditions: none. -/
import Derived.Test.YtjehkjdehkdjcaaB2
import Derived.Test.YtjehkjdehkdjcaaB9
import Derived.Test.YtjehkjdehkdjcaaB24
import Derived.Test.YtjehkjdehkdjcaaB21
import Derived.Test.YtjehkjdehkdjcaaB12
import Derived.Test.YtjehkjdehkdjcaaB13
import Derived.BigQuiet
import Derived.IntWalk
namespace Go.Proofs.Ytjehkjdehkdjcaa
open Go.ChangeShapes Go.WideShapes Go.ChangeAt Go.RowKit
namespace FnDrifts

theorem edD_ok {zs : List Int} {a b : Int} (h : (edD zs a b).2 = 0) : isBits zs = true ∧ a ∈ chgL zs ∧ b ∈ chgL zs ∧ a ≤ b ∧ (edD zs a b).1 = drf (b - a) := by
  unfold edD at h ⊢
  split at h
  · rename_i h1
    split at h
    · rename_i h2
      exact ⟨h1, h2.1, h2.2.1, h2.2.2, by rw [if_pos h1, if_pos h2]⟩
    · exact absurd h (by decide)
  · exact absurd h (by decide)
theorem crL_len (zs : List Int) : (crL zs).length ≤ zs.length := by
  unfold crL
  split
  · rw [List.length_map]; exact (runsTo_len zs zs.length).1
  · simp

set_option maxRecDepth 100000 in
set_option maxHeartbeats 16000000 in
theorem walk (w : World) (A : Option Addr) (n c : Nat) (bs : List Int) (h : RB w w.heap.size A n bs) (hn : n ≤ maxLen) :
    Calls Try.prog 14 #[.slice A n c] w fun e w' => e = .returned (.bool true) ∧ Below w.heap.size w w' := by
  rcases bool_cases (decide (4096 < n)) with hbig | hbig
  · go_enter Try.func14, Try.ntmps14
    go_wp2_with (go_at_call 21; refine (big_any _ _ _ _ hn).mono ?_; rw [hbig]; rintro e w' ⟨rfl, rfl⟩)
    go_ret
    exact ⟨rfl, Below.refl _ _⟩
  have hn4 : n ≤ 4096 := by simpa using hbig
  have B := Lib.hid (Below.refl w.heap.size w)
  go_enter Try.func14, Try.ntmps14
  go_wp2_with (go_at_call 21; refine (big_any _ _ _ _ hn).mono ?_; rw [hbig]; rintro e w' ⟨rfl, rfl⟩)
  clear hbig hn
  refine (drawEdgeDrift_any A n c bs _ ((h.below B.out (Nat.le_refl _)).more B.out.size) (by omega)).mono ?_
  rintro e w1 ⟨A_s, n_s, c_s, z_s, a, b, rfl, o_s, hn_s, hb⟩
  replace B := Lib.hid (below_next hb B.out (Nat.le_refl _))
  have r_s := o_s.reads
  have L_s := Lib.hid o_s.len
  clear hb o_s
  obtain ⟨d, hd⟩ : ∃ x, (edD z_s a b).1 = x := ⟨_, rfl⟩
  have Hd := Lib.hid hd
  clear hd
  obtain ⟨q, hq⟩ : ∃ x, (edD z_s a b).2 = x := ⟨_, rfl⟩
  have Hq := Lib.hid hq
  clear hq
  go_wp2_with fail
  refine (iEdgeDrift_any A_s n_s c_s z_s a b _ r_s (by omega)).mono ?_
  rw [Hd.out, Hq.out]
  rintro e w2 ⟨rfl, hb⟩
  replace B := Lib.hid (below_next hb B.out (Nat.le_refl _))
  replace r_s := r_s.up hb
  clear hb
  go_wp2_with fail
  refine (sEdgeDrift_any A_s n_s c_s z_s a b _ r_s (by omega)).mono ?_
  rw [Hd.out, Hq.out]
  rintro e w3 ⟨rfl, hb⟩
  replace B := Lib.hid (below_next hb B.out (Nat.le_refl _))
  replace r_s := r_s.up hb
  clear hb
  go_wp2_with fail
  refine (drawRoundCells_any A n c bs _ ((h.below B.out (Nat.le_refl _)).more B.out.size) (by omega)).mono ?_
  rintro e w4 ⟨v, rfl, hb⟩
  replace B := Lib.hid (below_next hb B.out (Nat.le_refl _))
  replace r_s := r_s.up hb
  clear hb
  obtain ⟨rk, hrk⟩ : ∃ x, (rdC v).1 = x := ⟨_, rfl⟩
  have Hrk := Lib.hid hrk
  clear hrk
  obtain ⟨rq, hrq⟩ : ∃ x, (rdC v).2 = x := ⟨_, rfl⟩
  have Hrq := Lib.hid hrq
  clear hrq
  go_wp2_with (first
    | (go_at_call 102; refine (iRoundCells_any v _).mono ?_; rw [Hrk.out, Hrq.out]; rintro e w' ⟨rfl, rfl⟩)
    | (go_at_call 103; refine (sRoundCells_any v _).mono ?_; rw [Hrk.out, Hrq.out]; rintro e w' ⟨rfl, rfl⟩))
  refine (drawNextEdge_any A n c bs _ ((h.below B.out (Nat.le_refl _)).more B.out.size) (by omega)).mono ?_
  rintro e w5 ⟨A_l, n_l, c_l, z_l, p, rfl, o_l, hn_l, hb⟩
  replace B := Lib.hid (below_next hb B.out (Nat.le_refl _))
  replace r_s := r_s.up hb
  have r_l := o_l.reads
  have L_l := Lib.hid o_l.len
  clear hb o_l
  obtain ⟨ev, hev⟩ : ∃ x, (nxE z_l p).1 = x := ⟨_, rfl⟩
  have Hev := Lib.hid hev
  clear hev
  obtain ⟨eq, heq⟩ : ∃ x, (nxE z_l p).2 = x := ⟨_, rfl⟩
  have Heq := Lib.hid heq
  clear heq
  go_wp2_with fail
  refine (iNextEdge_any A_l n_l c_l z_l p _ r_l (by omega)).mono ?_
  rw [Hev.out, Heq.out]
  rintro e w6 ⟨rfl, hb⟩
  replace B := Lib.hid (below_next hb B.out (Nat.le_refl _))
  replace r_s := r_s.up hb
  replace r_l := r_l.up hb
  clear hb
  go_wp2_with fail
  refine (sNextEdge_any A_l n_l c_l z_l p _ r_l (by omega)).mono ?_
  rw [Hev.out, Heq.out]
  rintro e w7 ⟨rfl, hb⟩
  replace B := Lib.hid (below_next hb B.out (Nat.le_refl _))
  replace r_s := r_s.up hb
  replace r_l := r_l.up hb
  clear hb
  clear r_l
  go_wp2_with fail
  refine (drawCellRuns_any A n c bs _ ((h.below B.out (Nat.le_refl _)).more B.out.size) (by omega)).mono ?_
  rintro e w8 ⟨A_o, n_o, c_o, z_o, rfl, o_o, hn_o, hb⟩
  replace B := Lib.hid (below_next hb B.out (Nat.le_refl _))
  replace r_s := r_s.up hb
  have r_o := o_o.reads
  have L_o := Lib.hid o_o.len
  clear hb o_o
  obtain ⟨R, hR⟩ : ∃ x, crL z_o = x := ⟨_, rfl⟩
  obtain ⟨q1, hq1⟩ : ∃ x, crC z_o = x := ⟨_, rfl⟩
  have HR := Lib.hid hR
  have HQ1 := Lib.hid hq1
  have hRl : R.length ≤ 8200 := by rw [← hR]; exact Nat.le_trans (crL_len _) (by rw [L_o.out]; exact hn_o)
  have HRL := Lib.hid hRl
  clear hR hq1 hRl
  go_wp2_with fail
  refine (iCellRuns_any A_o n_o c_o z_o _ r_o (by omega)).mono ?_
  rw [HR.out, HQ1.out]
  rintro e w9 ⟨A_x, n_x, c_x, rfl, o_x, hb⟩
  replace B := Lib.hid (below_next hb B.out (Nat.le_refl _))
  replace r_s := r_s.up hb
  replace r_o := r_o.up hb
  have r_x := o_x.reads
  have L_x := Lib.hid o_x.len
  clear hb o_x
  go_wp2_with fail
  refine (sCellRuns_any A_o n_o c_o z_o _ r_o (by omega)).mono ?_
  rw [HR.out, HQ1.out]
  rintro e w10 ⟨A_y, n_y, c_y, rfl, o_y, hb⟩
  replace B := Lib.hid (below_next hb B.out (Nat.le_refl _))
  replace r_s := r_s.up hb
  replace r_o := r_o.up hb
  replace r_x := r_x.up hb
  have r_y := o_y.reads
  have L_y := Lib.hid o_y.len
  clear hb o_y
  obtain ⟨N, hN⟩ : ∃ x, R.length = x := ⟨_, rfl⟩
  have HN := Lib.hid hN
  have hNl := HRL.out
  rw [hN] at hNl
  have e_x : N = n_x := by have := L_x.out; omega
  subst e_x
  have e_y : N = n_y := by have := L_y.out; omega
  subst e_y
  clear hN
  go_wp2_with fail
  have lk := likeIntsV A_x A_y (N) (N) c_x c_y R R _ r_x r_y (by omega) (by omega)
  rw [eqI_self] at lk
  refine lk.mono ?_
  clear lk
  rintro e w11 ⟨rfl, hb⟩
  replace B := Lib.hid (below_next hb B.out (Nat.le_refl _))
  replace r_s := r_s.up hb
  replace r_o := r_o.up hb
  replace r_x := r_x.up hb
  replace r_y := r_y.up hb
  clear hb
  rcases ne_cases q with rfl | ⟨h1, h2, h3⟩
  case inr =>
    go_wp2
    go_ret
    exact ⟨rfl, B.out⟩
  obtain ⟨b1, b2, b3, b4, b5⟩ := edD_ok Hq.out
  rw [Hd.out] at b5
  have ba := edL_bd b2 L_s.out
  have bb := edL_bd b3 L_s.out
  have hn8 := isBits_len b1
  have hl := L_s.out
  obtain ⟨m, hm⟩ : ∃ m, b - a = m := ⟨_, rfl⟩
  rw [hm] at b5
  have hR2 : rdC m = (rnd m, 0) := by unfold rdC; rw [if_pos (inR_iff.2 (by omega))]
  obtain ⟨k, hk⟩ : ∃ k, rnd m = k := ⟨_, rfl⟩
  have hk2 : k = (m + 4) / 8 := hk.symm
  have b6 : d = m - 8 * k := by rw [b5, ← hk]; rfl
  rw [hk] at hR2
  have HR2 := Lib.hid hR2
  have f1 : IntKind.i64.wrap (b - a) = m := by rw [hm]; exact IntWalk.i64_in _ (by omega)
  have f2 : IntKind.i64.wrap (8 * k) = 8 * k := IntWalk.i64_in _ (by omega)
  have f3 : IntKind.i64.wrap (8 * k + d) = m := by rw [IntWalk.i64_in _ (by omega)]; omega
  have g1 : -4 ≤ d := by omega
  have g2 : d ≤ 3 := by omega
  clear b1 b2 b3 b4 b5 ba bb hn8 hl hm hR2 hk hk2 b6
  go_wp2_with (go_at_call 102; refine (iRoundCells_any m _).mono ?_; rw [HR2.out]; rintro e w' ⟨rfl, rfl⟩)
  go_ret
  exact ⟨rfl, B.out⟩

set_option maxRecDepth 100000 in
theorem lifted (os : Os) (started : os.Started) (H : Type) (enc : TypeId × Value → H) :
    ReturnsInHanded {} Try.checked os 14 .any (Rows.fnDriftsSpec.pre6 enc Try.prog Try.f14 Rows.fnDriftsRow.domain false) (Rows.fnDriftsSpec.post enc Try.prog Try.f14 false true false false) := by
  refine returnsInHanded_of_change (C := Try.checked) own started (by kernel_rfl) Try.func14
    (ChangeSpec.witness6 (enc := enc) (C := Try.checked) false ⟨#[], #[.slice none 0 0], []⟩ 8 (by kernel_rfl) (by kernel_rfl) (by kernel_rfl) (by kernel_rfl)) ?_
  intro W base args ds gs before hval0 hW _ _
  have hval : ∀ (j : Nat) t v, Try.f14.params[j]? = some t → args[j]? = some v → Value.okWide Try.prog W .any base t v := hval0
  have hW' := hW
  obtain ⟨p, q, hA0, hV, rfl, hfz, hnd⟩ := hW
  have hA : DataW.TrodAll enc Try.prog W 0 (fun _ => true) true Try.f14.params.toList args.toList ds p := hA0
  rw [Try.params14] at hA hval
  obtain ⟨v0, vs0, d0, ds0, p0, q0, hargs, rfl, rfl, h0, r0⟩ := trodAll_cons hA
  obtain ⟨rfl, rfl, rfl⟩ := trodAll_nil r0
  obtain rfl : args = #[v0] := by cases args; simp_all
  obtain ⟨A0, n0, c0, bs0, rfl, hr0, hn0⟩ := arg_bytes Try.underlying39 Try.underlying5 (by kernel_rfl) (hval 0 39 v0 rfl rfl) h0
  refine (walk W A0 n0 c0 bs0 hr0 hn0).mono fun e W' ⟨he, hb⟩ => ?_
  subst he
  exact ⟨_, rfl, law_post laidOut (by
    rw [show Try.f14.params.toList = [39] from rfl]
    intro t ht
    rw [List.mem_singleton.1 ht]; exact ⟨by kernel_rfl, of_decide_eq_true (by kernel_rfl)⟩) rfl Try.underlying4 rfl rfl hW' hb⟩

set_option maxRecDepth 100000 in
theorem closed : joinedFacts Try.prog 14 Try.f14 Rows.fnDriftsSpec Rows.fnDriftsRow = true := by
  unfold joinedFacts
  rw [mayEnter_ok, liftsFinal_ok, make_ok]
  change _ = true
  kernel_rfl

theorem holds : Rows.FnDriftsSaid :=
  OpenClaim.holds_of_wide 14 Try.f14 rfl rfl rfl rfl rfl rfl rfl ⟨rfl, rfl, rfl, rfl, rfl⟩ rfl rfl rfl rfl rfl (by kernel_rfl) Try.func14 closed
    (of_decide_eq_true (by kernel_rfl)) (by unfold Func.isWrapper; first | (rw [if_pos (by decide +kernel)]; kernel_rfl) | (rw [if_neg (by decide +kernel)]; exact ⟨rfl, rfl⟩))
    (fun os started H enc _ => lifted os started H enc)
end FnDrifts
end Go.Proofs.Ytjehkjdehkdjcaa
