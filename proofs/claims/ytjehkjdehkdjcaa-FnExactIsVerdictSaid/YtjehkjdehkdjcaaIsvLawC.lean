/- FnExactIsVerdict: the program's IsVerdict returns what the reference's returns, for all arguments. Conditions: none. -/
import Derived.Test.YtjehkjdehkdjcaaB2
import Derived.Test.YtjehkjdehkdjcaaB26
import Derived.Test.YtjehkjdehkdjcaaB25
import Derived.Test.YtjehkjdehkdjcaaB1
import Derived.Deep.DeepCutAuto
namespace Go.Proofs.Ytjehkjdehkdjcaa
open Go.ChangeShapes Go.WideShapes Go.ChangeAt Go.RowKit
namespace IsVerdict
theorem tv_fn : (Try.f18.name == "runtime.NumGoroutine") = false ∧ Try.f18.body.isSome = true := ⟨by kernel_rfl, by kernel_rfl⟩
theorem ev_fn : (Try.f20.name == "runtime.NumGoroutine") = false ∧ Try.f20.body.isSome = true := ⟨by kernel_rfl, by kernel_rfl⟩

set_option maxRecDepth 20000 in
set_option maxHeartbeats 40000000 in
theorem walk (w : World) (x : Vdt) (A0 : Option Addr) (n0 c0 : Nat) (zs0 : List Int) (h00 : RI w w.heap.size A0 n0 zs0) (hm0 : n0 ≤ maxLen) :
    Calls Try.prog 3 #[.agg #[.int .i64 x.st, .int .i64 x.kd, .int .i64 x.rq, .int .i64 x.tm, .int .i64 x.md, .int .i64 x.rd, .int .i64 x.sl, .int .i64 x.mb, .slice A0 n0 c0]] w fun e w' => e = .returned (.bool true) ∧ Below w.heap.size w w' := by
  have hb0 : Below w.heap.size w (w.alloc (.cells #[.int .i64 x.st, .int .i64 x.kd, .int .i64 x.rq, .int .i64 x.tm, .int .i64 x.md, .int .i64 x.rd, .int .i64 x.sl, .int .i64 x.mb, .slice A0 n0 c0] 28)) := below_alloc (Below.refl _ _) (Nat.le_refl _) _
  have h0 := h00.up hb0
  have kx : BlkL (w.alloc (.cells #[.int .i64 x.st, .int .i64 x.kd, .int .i64 x.rq, .int .i64 x.tm, .int .i64 x.md, .int .i64 x.rd, .int .i64 x.sl, .int .i64 x.mb, .slice A0 n0 c0] 28)) w.heap.size 28 [.int .i64 x.st, .int .i64 x.kd, .int .i64 x.rq, .int .i64 x.tm, .int .i64 x.md, .int .i64 x.rd, .int .i64 x.sl, .int .i64 x.mb, .slice A0 n0 c0] := BlkL.new w _ _ rfl
  obtain ⟨w0, hw0⟩ : ∃ z, w.alloc (.cells #[.int .i64 x.st, .int .i64 x.kd, .int .i64 x.rq, .int .i64 x.tm, .int .i64 x.md, .int .i64 x.rd, .int .i64 x.sl, .int .i64 x.mb, .slice A0 n0 c0] 28) = z := ⟨_, rfl⟩
  rw [hw0] at hb0 h0 kx
  have HB := Lib.hid hb0
  have KX := Lib.hid kx
  have HW := Lib.hid hw0
  clear hb0 kx h00 hw0
  have x0 := KX.out.c 0 rfl
  have x1 := KX.out.c 1 rfl
  have x2 := KX.out.c 2 rfl
  have x3 := KX.out.c 3 rfl
  have x4 := KX.out.c 4 rfl
  have x5 := KX.out.c 5 rfl
  have x6 := KX.out.c 6 rfl
  have x7 := KX.out.c 7 rfl
  have x8 := KX.out.c 8 rfl
  by_cases hs0 : (n0 : Int) ≤ 1048576
  case neg =>
    go_enter Try.func3, Try.ntmps3
    go_wp2_with (rw [HW.out])
    refine (szVerdict_any x A0 n0 c0 1048576 _ hm0 (by omega) (by omega)).mono ?_
    rw [szL_neg (by omega)]
    rintro e w1 ⟨rfl, hb1⟩
    go_wp2
    go_ret
    exact ⟨rfl, below_next hb1 HB.out (Nat.le_refl _)⟩
  have hn0 : n0 ≤ 1099511627776 := by omega
  obtain ⟨V, hV⟩ : ∃ v, isV x zs0 = v := ⟨_, rfl⟩
  have HV := Lib.hid hV
  clear hV
  go_enter Try.func3, Try.ntmps3
  go_wp2_with (rw [HW.out])
  refine (szVerdict_any x A0 n0 c0 1048576 _ hm0 (by omega) (by omega)).mono ?_
  rw [szL_pos (by omega)]
  rintro e w1 ⟨rfl, hb1⟩
  clear x0 x1 x2 x3 x4 x5 x6 x7 x8
  have hB1 : Below w0.heap.size w0 w1 := hb1
  clear hb1 hm0
  have KX1 := Lib.hid (BlkL.next hB1 KX.out)
  have g01 := h0.up hB1
  have HB1 := Lib.hid hB1
  clear hB1
  have x0 := KX1.out.c 0 rfl
  have x1 := KX1.out.c 1 rfl
  have x2 := KX1.out.c 2 rfl
  have x3 := KX1.out.c 3 rfl
  have x4 := KX1.out.c 4 rfl
  have x5 := KX1.out.c 5 rfl
  have x6 := KX1.out.c 6 rfl
  have x7 := KX1.out.c 7 rfl
  have x8 := KX1.out.c 8 rfl
  go_wp2_with fail
  refine (toVerdict_any x A0 n0 c0 zs0 _ g01 hn0).mono ?_
  rintro e w2 ⟨A2, c2, rfl, ho2, hb2⟩
  unfold aggV
  clear x0 x1 x2 x3 x4 x5 x6 x7 x8
  have hB2 : Below w0.heap.size w0 w2 := below_next hb2 HB1.out (Nat.le_refl _)
  have HO2 := Lib.hid ho2
  clear hb2 ho2
  go_wp2_with fail
  refine (sIsV_any x A2 n0 c2 zs0 _ HO2.out.reads hn0).mono ?_
  rw [HV.out]
  rintro e w3 ⟨rfl, hb3⟩
  have hB3 : Below w0.heap.size w0 w3 := below_next hb3 hB2 (Nat.le_refl _)
  clear hb3 hB2 HO2
  have KX3 := Lib.hid (BlkL.next hB3 KX.out)
  have g03 := h0.up hB3
  have HB3 := Lib.hid hB3
  clear hB3
  have x0 := KX3.out.c 0 rfl
  have x1 := KX3.out.c 1 rfl
  have x2 := KX3.out.c 2 rfl
  have x3 := KX3.out.c 3 rfl
  have x4 := KX3.out.c 4 rfl
  have x5 := KX3.out.c 5 rfl
  have x6 := KX3.out.c 6 rfl
  have x7 := KX3.out.c 7 rfl
  have x8 := KX3.out.c 8 rfl
  go_wp2_with fail
  refine (toVerdict_any x A0 n0 c0 zs0 _ g03 hn0).mono ?_
  rintro e w4 ⟨A7, c7, rfl, ho7, hb4⟩
  unfold aggV
  clear x0 x1 x2 x3 x4 x5 x6 x7 x8
  have HO7 := Lib.hid ho7
  have HB4 := Lib.hid (show Below w0.heap.size w0 w4 from below_next hb4 HB3.out (Nat.le_refl _))
  clear ho7 hb4
  go_wp2_with fail
  refine (iIsV_any x A7 n0 c7 zs0 _ (by exact (HO7.out.alloc _).reads) hn0).mono ?_
  rw [HV.out]
  rintro e w6 ⟨rfl, hb6⟩
  have K76 := Lib.hid (show BlkL w6 w4.heap.size 35 [.int .i64 x.st, .int .i64 x.kd, .int .i64 x.rq, .int .i64 x.tm, .int .i64 x.md, .int .i64 x.rd, .int .i64 x.sl, .int .i64 x.mb, .slice A7 n0 c7] from BlkL.next hb6 (BlkL.new w4 _ _ rfl))
  have HO76 := Lib.hid ((HO7.out.alloc _).below hb6)
  have hB6 : Below w0.heap.size w0 w6 := below_next hb6 (below_alloc HB4.out (Nat.le_refl _) _) (Nat.le_refl _)
  clear hb6
  have KX6 := Lib.hid (BlkL.next hB6 KX.out)
  have g06 := h0.up hB6
  have HB6 := Lib.hid hB6
  clear hB6
  have s0 := K76.out.c 0 rfl
  have s1 := K76.out.c 1 rfl
  have s2 := K76.out.c 2 rfl
  have s3 := K76.out.c 3 rfl
  have s4 := K76.out.c 4 rfl
  have s5 := K76.out.c 5 rfl
  have s6 := K76.out.c 6 rfl
  have s7 := K76.out.c 7 rfl
  have s8 := K76.out.c 8 rfl
  have x0 := KX6.out.c 0 rfl
  have x1 := KX6.out.c 1 rfl
  have x2 := KX6.out.c 2 rfl
  have x3 := KX6.out.c 3 rfl
  have x4 := KX6.out.c 4 rfl
  have x5 := KX6.out.c 5 rfl
  have x6 := KX6.out.c 6 rfl
  have x7 := KX6.out.c 7 rfl
  have x8 := KX6.out.c 8 rfl
  go_upto_region 10 with fail
  go_cut [26] (fun v wz => v = .bool false ∧ Below w6.heap.size w6 wz)
  case first =>
    go_region_law (first
      | ((refine step_call 18 Try.func18 tv_fn.1 tv_fn.2 rfl rfl #[.agg #[.int .i64 x.st, .int .i64 x.kd, .int .i64 x.rq, .int .i64 x.tm, .int .i64 x.md, .int .i64 x.rd, .int .i64 x.sl, .int .i64 x.mb, .slice A0 n0 c0]] ?_ ?_); (simp [Act.eval]); (refine (toVerdict_any x A0 n0 c0 zs0 _ (by exact g06) hn0).mono ?_); rintro e wX ⟨AX, cX, rfl, hoX, hbX⟩; (refine ⟨_, rfl, ?_⟩); (have K9X := Lib.hid (show BlkL wX (w4.heap.size) 35 [.int .i64 x.st, .int .i64 x.kd, .int .i64 x.rq, .int .i64 x.tm, .int .i64 x.md, .int .i64 x.rd, .int .i64 x.sl, .int .i64 x.mb, .slice A7 n0 c7] from BlkL.next (w := w6.drew) hbX K76.out)); have sX0 := K9X.out.c 0 rfl; have sX1 := K9X.out.c 1 rfl; have sX2 := K9X.out.c 2 rfl; have sX3 := K9X.out.c 3 rfl; have sX4 := K9X.out.c 4 rfl; have sX5 := K9X.out.c 5 rfl; have sX6 := K9X.out.c 6 rfl; have sX7 := K9X.out.c 7 rfl; have sX8 := K9X.out.c 8 rfl; have HOX := Lib.hid hoX; have HBX := Lib.hid (show Below w6.drew.heap.size w6.drew wX from hbX); clear hoX hbX)
      | ((refine step_call 20 Try.func20 ev_fn.1 ev_fn.2 rfl rfl #[.agg #[.int .i64 x.st, .int .i64 x.kd, .int .i64 x.rq, .int .i64 x.tm, .int .i64 x.md, .int .i64 x.rd, .int .i64 x.sl, .int .i64 x.mb, .slice A7 n0 c7], aggV x AX n0 cX] ?_ ?_); (simp [Act.eval]); (refine (eqVerdict_self x A7 AX n0 c7 cX zs0 _ (by exact (HO76.out.below (below_next_drew HBX.out (Below.refl w6.heap.size w6) (Nat.le_refl _))).reads) (by exact HOX.out.reads) hn0).mono ?_); rintro e wE ⟨rfl, hbE⟩; (refine ⟨_, rfl, ?_⟩); have HBE := Lib.hid hbE; clear hbE))
    all_goals
      go_wp2_with fail
      go_meet
      exact ⟨rfl, below_next HBE.out (below_next_drew HBX.out (Below.refl w6.heap.size w6) (Nat.le_refl _)) (Nat.le_refl _)⟩
  case rest =>
    obtain ⟨rfl, hb9⟩ := hcut
    go_wp2
    go_ret
    exact ⟨rfl, HB.out.trans ((below_next hb9 HB6.out (Nat.le_refl _)).mono HB.out.size)⟩

set_option maxRecDepth 100000 in
theorem lifted (os : Os) (started : os.Started) (H : Type) (enc : TypeId × Value → H) :
    ReturnsInHanded {} Try.checked os 3 .any (Rows.fnExactIsVerdictSpec.pre6 enc Try.prog Try.f3 Rows.fnExactIsVerdictRow.domain false) (Rows.fnExactIsVerdictSpec.post enc Try.prog Try.f3 false true false false) := by
  refine returnsInHanded_of_change (C := Try.checked) own started (by kernel_rfl) Try.func3
    (ChangeSpec.witness6 (enc := enc) (C := Try.checked) false ⟨#[], #[.agg #[.int .i64 0, .int .i64 0, .int .i64 0, .int .i64 0, .int .i64 0, .int .i64 0, .int .i64 0, .int .i64 0, .slice none 0 0]], []⟩ 8 (by kernel_rfl) (by kernel_rfl) (by kernel_rfl) (by kernel_rfl)) ?_
  intro W base args ds gs before hval0 hW _ _
  have hval : ∀ (j : Nat) t v, Try.f3.params[j]? = some t → args[j]? = some v → Value.okWide Try.prog W .any base t v := hval0
  have hW' := hW
  obtain ⟨p, q, hA0, hV, rfl, hfz, hnd⟩ := hW
  have hA : DataW.TrodAll enc Try.prog W 0 (fun _ => true) true Try.f3.params.toList args.toList ds p := hA0
  rw [Try.params3] at hA hval
  obtain ⟨v0, vs0, d0, ds0, p0, q0, hargs, rfl, rfl, h0, r0⟩ := trodAll_cons hA
  obtain ⟨rfl, rfl, rfl⟩ := trodAll_nil r0
  obtain rfl : args = #[v0] := by cases args; simp_all
  obtain ⟨f0, A0, n0, c0, zs0, rfl, _, hr0, _, hn0⟩ := arg_verdict Try.underlying28 (by kernel_rfl) ⟨rfl, rfl⟩ ⟨rfl, rfl⟩ Try.underlying26 (by kernel_rfl) ⟨rfl, rfl⟩ ⟨rfl, rfl⟩ ⟨rfl, rfl⟩ ⟨rfl, rfl⟩ Try.underlying23 (by kernel_rfl) ⟨rfl, rfl⟩ ⟨rfl, rfl⟩ ⟨rfl, rfl⟩ ⟨rfl, rfl⟩ ⟨rfl, rfl⟩ Try.underlying24 (by kernel_rfl) Try.underlying2 (by kernel_rfl) (hval 0 28 v0 rfl rfl) h0
  refine (walk W f0 A0 n0 c0 zs0 hr0 hn0).mono fun e W' ⟨he, hb⟩ => ?_
  subst he
  exact ⟨_, rfl, law_post laidOut (by
    rw [show Try.f3.params.toList = [28] from rfl]
    intro t ht
    rw [List.mem_singleton.1 ht]; exact ⟨by kernel_rfl, of_decide_eq_true (by kernel_rfl)⟩) rfl Try.underlying4 rfl rfl hW' hb⟩

set_option maxRecDepth 100000 in
theorem closed : joinedFacts Try.prog 3 Try.f3 Rows.fnExactIsVerdictSpec Rows.fnExactIsVerdictRow = true := by
  unfold joinedFacts
  rw [mayEnter_ok, liftsFinal_ok, make_ok]
  change _ = true
  kernel_rfl

theorem holds : Rows.FnExactIsVerdictSaid :=
  OpenClaim.holds_of_wide 3 Try.f3 rfl rfl rfl rfl rfl rfl rfl ⟨rfl, rfl, rfl, rfl, rfl⟩ rfl rfl rfl rfl rfl (by kernel_rfl) Try.func3 closed
    (of_decide_eq_true (by kernel_rfl)) (by unfold Func.isWrapper; first | (rw [if_pos (by decide +kernel)]; kernel_rfl) | (rw [if_neg (by decide +kernel)]; exact ⟨rfl, rfl⟩))
    (fun os started H enc _ => lifted os started H enc)
end IsVerdict
end Go.Proofs.Ytjehkjdehkdjcaa
