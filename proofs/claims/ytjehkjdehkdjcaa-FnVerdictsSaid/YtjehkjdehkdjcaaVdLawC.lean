/- FnVerdicts: statuses are recovered from their names, and a verdict is the same as itself, for every code. Conditions: none. -/
import Derived.Test.YtjehkjdehkdjcaaB2
import Derived.Test.YtjehkjdehkdjcaaB9
import Derived.Test.YtjehkjdehkdjcaaB31
import Derived.Test.YtjehkjdehkdjcaaB32
import Derived.Test.YtjehkjdehkdjcaaB25
import Derived.Test.YtjehkjdehkdjcaaB1
import Derived.BigQuiet
import Derived.IntWalk
import Derived.Deep.RegionHeldLaw
namespace Go.Proofs.Ytjehkjdehkdjcaa
open Go.ChangeShapes Go.WideShapes Go.ChangeAt Go.RowKit
namespace FnVerdicts

set_option maxRecDepth 100000 in
set_option maxHeartbeats 16000000 in
theorem walk (w : World) (A : Option Addr) (n c : Nat) (bs : List Int) (h : RB w w.heap.size A n bs) (hn : n ≤ maxLen) :
    Calls Try.prog 5 #[.slice A n c] w fun e w' => e = .returned (.bool true) ∧ Below w.heap.size w w' := by
  rcases bool_cases (decide (4096 < n)) with hbig | hbig
  · go_enter Try.func5, Try.ntmps5
    go_wp2_with (go_at_call 21; refine (big_any _ _ _ _ hn).mono ?_; rw [hbig]; rintro e w' ⟨rfl, rfl⟩)
    go_ret
    exact ⟨rfl, Below.refl _ _⟩
  have hn4 : n ≤ 4096 := by simpa using hbig
  have B := Lib.hid (Below.refl w.heap.size w)
  go_enter Try.func5, Try.ntmps5
  go_wp2_with (go_at_call 21; refine (big_any _ _ _ _ hn).mono ?_; rw [hbig]; rintro e w' ⟨rfl, rfl⟩)
  clear hbig hn
  refine (drawIsVerdict_any A n c bs _ h (by omega)).mono ?_
  rintro e w1 ⟨x, A1, n1, c1, z1, rfl, r1, hn1, hb1⟩
  obtain ⟨u1, hu1⟩ : ∃ X, w1.alloc (.cells #[.int .i64 x.st, .int .i64 x.kd, .int .i64 x.rq, .int .i64 x.tm, .int .i64 x.md, .int .i64 x.rd, .int .i64 x.sl, .int .i64 x.mb, .slice A1 n1 c1] 35) = X := ⟨_, rfl⟩
  have B1 := Lib.hid (show Below w.heap.size w u1 from hu1 ▸ below_alloc hb1 (Nat.le_refl _) _)
  have K1 := Lib.hid (show BlkL u1 w1.heap.size 35 [.int .i64 x.st, .int .i64 x.kd, .int .i64 x.rq, .int .i64 x.tm, .int .i64 x.md, .int .i64 x.rd, .int .i64 x.sl, .int .i64 x.mb, .slice A1 n1 c1] from hu1 ▸ BlkL.new w1 _ _ rfl)
  have R1 := Lib.hid (show RI u1 u1.heap.size A1 n1 z1 from hu1 ▸ r1.alloc' _)
  have HU1 := Lib.hid hu1
  clear hu1 r1 hb1
  go_wp2_with (rw [HU1.out])
  refine (drawSameVerdict_any A n c bs _ ((h.below B1.out (Nat.le_refl _)).more B1.out.size) (by omega)).mono ?_
  rintro e w2 ⟨y, A2, n2, c2, z2, z, A3, n3, c3, z3, rfl, r2, hn2, r3, hn3, hb2⟩
  obtain ⟨u2, hu2⟩ : ∃ X, ((w2.alloc (.cells #[.int .i64 y.st, .int .i64 y.kd, .int .i64 y.rq, .int .i64 y.tm, .int .i64 y.md, .int .i64 y.rd, .int .i64 y.sl, .int .i64 y.mb, .slice A2 n2 c2] 35)).alloc (.cells #[.int .i64 z.st, .int .i64 z.kd, .int .i64 z.rq, .int .i64 z.tm, .int .i64 z.md, .int .i64 z.rd, .int .i64 z.sl, .int .i64 z.mb, .slice A3 n3 c3] 35)) = X := ⟨_, rfl⟩
  have hB := (show Below w2.heap.size w2 u2 from hu2 ▸ (below_alloc (below_alloc (Below.refl w2.heap.size w2) (Nat.le_refl _) _) (Nat.le_refl _) _))
  have B2 := Lib.hid (below_next hB (below_next hb2 B1.out (Nat.le_refl _)) (Nat.le_refl _))
  have K2 := Lib.hid (show BlkL u2 w2.heap.size 35 [.int .i64 y.st, .int .i64 y.kd, .int .i64 y.rq, .int .i64 y.tm, .int .i64 y.md, .int .i64 y.rd, .int .i64 y.sl, .int .i64 y.mb, .slice A2 n2 c2] from hu2 ▸ ((BlkL.new w2 35 _ rfl).alloc _))
  have K3 := Lib.hid (show BlkL u2 (w2.heap.size + 1) 35 [.int .i64 z.st, .int .i64 z.kd, .int .i64 z.rq, .int .i64 z.tm, .int .i64 z.md, .int .i64 z.rd, .int .i64 z.sl, .int .i64 z.mb, .slice A3 n3 c3] from hu2 ▸ (BlkL.new (w2.alloc _) 35 _ (by simp)))
  have K4 := Lib.hid (BlkL.next hB (K1.out.next hb2))
  have R4 := Lib.hid ((R1.out.up hb2).up hB)
  have R2 := Lib.hid (r2.up hB)
  have R3 := Lib.hid (r3.up hB)
  have HU2 := Lib.hid hu2
  clear hu2 hB r2 r3 hb2 K1 R1 B1
  go_upto_region 5 with fail
  rw [HU2.out]
  clear HU2 HU1
  go_wp2_with fail
  refine (drawStatusName_any A n c bs _ ((h.below B2.out (Nat.le_refl _)).more B2.out.size) (by omega)).mono ?_
  rintro e v1 ⟨k, rfl, hk1, hk2, hb⟩
  replace B2 := Lib.hid (below_next hb B2.out (Nat.le_refl _))
  replace K2 := Lib.hid (K2.out.next hb)
  replace K3 := Lib.hid (K3.out.next hb)
  replace K4 := Lib.hid (K4.out.next hb)
  replace R2 := Lib.hid (R2.out.up hb)
  replace R3 := Lib.hid (R3.out.up hb)
  replace R4 := Lib.hid (R4.out.up hb)
  clear hb
  obtain ⟨t, ht⟩ : ∃ t, sName k = t := ⟨_, rfl⟩
  have HT := Lib.hid ht
  clear ht
  go_wp2_with fail
  refine (iStatusName_any k _).mono ?_
  rw [HT.out]
  rintro e v2 ⟨rfl, hb⟩
  replace B2 := Lib.hid (below_next hb B2.out (Nat.le_refl _))
  replace K2 := Lib.hid (K2.out.next hb)
  replace K3 := Lib.hid (K3.out.next hb)
  replace K4 := Lib.hid (K4.out.next hb)
  replace R2 := Lib.hid (R2.out.up hb)
  replace R3 := Lib.hid (R3.out.up hb)
  replace R4 := Lib.hid (R4.out.up hb)
  clear hb
  obtain ⟨tv, htv⟩ : ∃ v, StatusNamed.val t = v := ⟨_, rfl⟩
  obtain ⟨tc, htc⟩ : ∃ v, StatusNamed.cod t = v := ⟨_, rfl⟩
  have HTV := Lib.hid htv; have HTC := Lib.hid htc
  clear htv htc
  go_wp2_with fail
  refine (StatusNamed.impl_any t _).mono ?_
  rw [HTV.out, HTC.out]
  rintro e v3 ⟨rfl, hb⟩
  replace B2 := Lib.hid (below_next hb B2.out (Nat.le_refl _))
  replace K2 := Lib.hid (K2.out.next hb)
  replace K3 := Lib.hid (K3.out.next hb)
  replace K4 := Lib.hid (K4.out.next hb)
  replace R2 := Lib.hid (R2.out.up hb)
  replace R3 := Lib.hid (R3.out.up hb)
  replace R4 := Lib.hid (R4.out.up hb)
  clear hb
  go_wp2_with fail
  refine (drawStatusNamed_any A n c bs _ ((h.below B2.out (Nat.le_refl _)).more B2.out.size) (by omega)).mono ?_
  rintro e v4 ⟨s, rfl, hb⟩
  replace B2 := Lib.hid (below_next hb B2.out (Nat.le_refl _))
  replace K2 := Lib.hid (K2.out.next hb)
  replace K3 := Lib.hid (K3.out.next hb)
  replace K4 := Lib.hid (K4.out.next hb)
  replace R2 := Lib.hid (R2.out.up hb)
  replace R3 := Lib.hid (R3.out.up hb)
  replace R4 := Lib.hid (R4.out.up hb)
  clear hb
  obtain ⟨sv, hsv⟩ : ∃ v, StatusNamed.val s = v := ⟨_, rfl⟩
  obtain ⟨sc, hsc⟩ : ∃ v, StatusNamed.cod s = v := ⟨_, rfl⟩
  have HSV := Lib.hid hsv; have HSC := Lib.hid hsc
  clear hsv hsc
  go_wp2_with fail
  refine (StatusNamed.impl_any s _).mono ?_
  rw [HSV.out, HSC.out]
  rintro e v5 ⟨rfl, hb⟩
  replace B2 := Lib.hid (below_next hb B2.out (Nat.le_refl _))
  replace K2 := Lib.hid (K2.out.next hb)
  replace K3 := Lib.hid (K3.out.next hb)
  replace K4 := Lib.hid (K4.out.next hb)
  replace R2 := Lib.hid (R2.out.up hb)
  replace R3 := Lib.hid (R3.out.up hb)
  replace R4 := Lib.hid (R4.out.up hb)
  clear hb
  go_wp2_with fail
  refine (StatusNamed.spec_any s _).mono ?_
  rw [HSV.out, HSC.out]
  rintro e v6 ⟨rfl, hb⟩
  replace B2 := Lib.hid (below_next hb B2.out (Nat.le_refl _))
  replace K2 := Lib.hid (K2.out.next hb)
  replace K3 := Lib.hid (K3.out.next hb)
  replace K4 := Lib.hid (K4.out.next hb)
  replace R2 := Lib.hid (R2.out.up hb)
  replace R3 := Lib.hid (R3.out.up hb)
  replace R4 := Lib.hid (R4.out.up hb)
  clear hb
  have hVS : VS w w.heap.size w1.heap.size w2.heap.size (w2.heap.size + 1) x y z A1 A2 A3 n1 c1 n2 c2 n3 c3 z1 z2 z3 v6 := ⟨B2.out, K4.out, K2.out, K3.out, R4.out, R2.out, R3.out, Nat.le_refl _⟩
  clear B2 K4 K2 K3 R4 R2 R3
  obtain ⟨I1, hI⟩ : ∃ v, isV x z1 = v := ⟨_, rfl⟩
  obtain ⟨S1, hS⟩ : ∃ v, sV y z z2 z3 = v := ⟨_, rfl⟩
  have HI := Lib.hid hI; have HS := Lib.hid hS
  clear hI hS
  have HSS := Lib.hid (show sV x x z1 z1 = true by simp [sV, sF, eqI_self])
  go_upto_region 11 with fail
  have hk := sName_cases k
  rw [HT.out] at hk
  rw [HTV.out, HTC.out] at hk
  rcases hk with ⟨t0, tl, rfl, rfl, rfl⟩ | ⟨rfl, rfl⟩
  all_goals
    first
    | go_region_held_law (fun u => VS w w.heap.size w1.heap.size w2.heap.size (w2.heap.size + 1) x y z A1 A2 A3 n1 c1 n2 c2 n3 c3 z1 z2 z3 u ∧ u.cell? ⟨w1.heap.size, 0, none⟩ = some (.int .i64 x.st) ∧ u.cell? ⟨w1.heap.size, 1, none⟩ = some (.int .i64 x.kd) ∧ u.cell? ⟨w1.heap.size, 2, none⟩ = some (.int .i64 x.rq) ∧ u.cell? ⟨w1.heap.size, 3, none⟩ = some (.int .i64 x.tm) ∧ u.cell? ⟨w1.heap.size, 4, none⟩ = some (.int .i64 x.md) ∧ u.cell? ⟨w1.heap.size, 5, none⟩ = some (.int .i64 x.rd) ∧ u.cell? ⟨w1.heap.size, 6, none⟩ = some (.int .i64 x.sl) ∧ u.cell? ⟨w1.heap.size, 7, none⟩ = some (.int .i64 x.mb) ∧ u.cell? ⟨w1.heap.size, 8, none⟩ = some (.slice A1 n1 c1) ∧ u.cell? ⟨w2.heap.size, 0, none⟩ = some (.int .i64 y.st) ∧ u.cell? ⟨w2.heap.size, 1, none⟩ = some (.int .i64 y.kd) ∧ u.cell? ⟨w2.heap.size, 2, none⟩ = some (.int .i64 y.rq) ∧ u.cell? ⟨w2.heap.size, 3, none⟩ = some (.int .i64 y.tm) ∧ u.cell? ⟨w2.heap.size, 4, none⟩ = some (.int .i64 y.md) ∧ u.cell? ⟨w2.heap.size, 5, none⟩ = some (.int .i64 y.rd) ∧ u.cell? ⟨w2.heap.size, 6, none⟩ = some (.int .i64 y.sl) ∧ u.cell? ⟨w2.heap.size, 7, none⟩ = some (.int .i64 y.mb) ∧ u.cell? ⟨w2.heap.size, 8, none⟩ = some (.slice A2 n2 c2) ∧ u.cell? ⟨w2.heap.size + 1, 0, none⟩ = some (.int .i64 z.st) ∧ u.cell? ⟨w2.heap.size + 1, 1, none⟩ = some (.int .i64 z.kd) ∧ u.cell? ⟨w2.heap.size + 1, 2, none⟩ = some (.int .i64 z.rq) ∧ u.cell? ⟨w2.heap.size + 1, 3, none⟩ = some (.int .i64 z.tm) ∧ u.cell? ⟨w2.heap.size + 1, 4, none⟩ = some (.int .i64 z.md) ∧ u.cell? ⟨w2.heap.size + 1, 5, none⟩ = some (.int .i64 z.rd) ∧ u.cell? ⟨w2.heap.size + 1, 6, none⟩ = some (.int .i64 z.sl) ∧ u.cell? ⟨w2.heap.size + 1, 7, none⟩ = some (.int .i64 z.mb) ∧ u.cell? ⟨w2.heap.size + 1, 8, none⟩ = some (.slice A3 n3 c3)) (first | exact VS.cells (VS.drew hVS) | exact VS.cells (by assumption)) (first
      | (go_at_call 42; (have hvs : VS w w.heap.size w1.heap.size w2.heap.size (w2.heap.size + 1) x y z A1 A2 A3 n1 c1 n2 c2 n3 c3 z1 z2 z3 _ := And.left (‹VS w w.heap.size w1.heap.size w2.heap.size (w2.heap.size + 1) x y z A1 A2 A3 n1 c1 n2 c2 n3 c3 z1 z2 z3 _ ∧ _›)); (with_reducible refine (sStatusName_any _ _).mono ?_); rw [HT.out]; rintro e cc ⟨rfl, hb⟩; (have hv := VS.next hvs hb); clear hb hvs)
      | (go_at_call 19; (have hvs : VS w w.heap.size w1.heap.size w2.heap.size (w2.heap.size + 1) x y z A1 A2 A3 n1 c1 n2 c2 n3 c3 z1 z2 z3 _ := And.left (‹VS w w.heap.size w1.heap.size w2.heap.size (w2.heap.size + 1) x y z A1 A2 A3 n1 c1 n2 c2 n3 c3 z1 z2 z3 _ ∧ _›)); (with_reducible refine (iIsV_lit x A1 n1 c1 z1 _ hvs.r4 (by omega)).mono ?_); rw [HI.out]; rintro e cc ⟨rfl, hb⟩; (have hv := VS.next hvs hb); clear hb hvs)
      | (go_at_call 17; (have hvs : VS w w.heap.size w1.heap.size w2.heap.size (w2.heap.size + 1) x y z A1 A2 A3 n1 c1 n2 c2 n3 c3 z1 z2 z3 _ := And.left (‹VS w w.heap.size w1.heap.size w2.heap.size (w2.heap.size + 1) x y z A1 A2 A3 n1 c1 n2 c2 n3 c3 z1 z2 z3 _ ∧ _›)); (with_reducible refine (sIsV_lit x A1 n1 c1 z1 _ hvs.r4 (by omega)).mono ?_); rw [HI.out]; rintro e cc ⟨rfl, hb⟩; (have hv := VS.next hvs hb); clear hb hvs)
      | (go_at_call 40; (have hvs : VS w w.heap.size w1.heap.size w2.heap.size (w2.heap.size + 1) x y z A1 A2 A3 n1 c1 n2 c2 n3 c3 z1 z2 z3 _ := And.left (‹VS w w.heap.size w1.heap.size w2.heap.size (w2.heap.size + 1) x y z A1 A2 A3 n1 c1 n2 c2 n3 c3 z1 z2 z3 _ ∧ _›)); (with_reducible refine (iSame_lit x x A1 A1 n1 n1 c1 c1 z1 z1 _ hvs.r4 hvs.r4 (by omega) (by omega)).mono ?_); rw [HSS.out]; rintro e cc ⟨rfl, hb⟩; (have hv := VS.next hvs hb); clear hb hvs)
      | (go_at_call 40; (have hvs : VS w w.heap.size w1.heap.size w2.heap.size (w2.heap.size + 1) x y z A1 A2 A3 n1 c1 n2 c2 n3 c3 z1 z2 z3 _ := And.left (‹VS w w.heap.size w1.heap.size w2.heap.size (w2.heap.size + 1) x y z A1 A2 A3 n1 c1 n2 c2 n3 c3 z1 z2 z3 _ ∧ _›)); (with_reducible refine (iSame_lit y z A2 A3 n2 n3 c2 c3 z2 z3 _ hvs.r2 hvs.r3 (by omega) (by omega)).mono ?_); rw [HS.out]; rintro e cc ⟨rfl, hb⟩; (have hv := VS.next hvs hb); clear hb hvs)
      | (go_at_call 41; (have hvs : VS w w.heap.size w1.heap.size w2.heap.size (w2.heap.size + 1) x y z A1 A2 A3 n1 c1 n2 c2 n3 c3 z1 z2 z3 _ := And.left (‹VS w w.heap.size w1.heap.size w2.heap.size (w2.heap.size + 1) x y z A1 A2 A3 n1 c1 n2 c2 n3 c3 z1 z2 z3 _ ∧ _›)); (with_reducible refine (likeV_lit y z A2 A3 n2 n3 c2 c3 z2 z3 _ hvs.r2 hvs.r3 (by omega) (by omega)).mono ?_); rw [HS.out]; rintro e cc ⟨rfl, hb⟩; (have hv := VS.next hvs hb); clear hb hvs))
    | fail
  all_goals
    go_wp2_with fail
    go_ret
    refine ⟨?_, hv.bel⟩
    first
    | rfl

set_option maxRecDepth 100000 in
theorem lifted (os : Os) (started : os.Started) (H : Type) (enc : TypeId × Value → H) :
    ReturnsInHanded {} Try.checked os 5 .any (Rows.fnVerdictsSpec.pre6 enc Try.prog Try.f5 Rows.fnVerdictsRow.domain false) (Rows.fnVerdictsSpec.post enc Try.prog Try.f5 false true false false) := by
  refine returnsInHanded_of_change (C := Try.checked) own started (by kernel_rfl) Try.func5
    (ChangeSpec.witness6 (enc := enc) (C := Try.checked) false ⟨#[], #[.slice none 0 0], []⟩ 8 (by kernel_rfl) (by kernel_rfl) (by kernel_rfl) (by kernel_rfl)) ?_
  intro W base args ds gs before hval0 hW _ _
  have hval : ∀ (j : Nat) t v, Try.f5.params[j]? = some t → args[j]? = some v → Value.okWide Try.prog W .any base t v := hval0
  have hW' := hW
  obtain ⟨p, q, hA0, hV, rfl, hfz, hnd⟩ := hW
  have hA : DataW.TrodAll enc Try.prog W 0 (fun _ => true) true Try.f5.params.toList args.toList ds p := hA0
  rw [Try.params5] at hA hval
  obtain ⟨v0, vs0, d0, ds0, p0, q0, hargs, rfl, rfl, h0, r0⟩ := trodAll_cons hA
  obtain ⟨rfl, rfl, rfl⟩ := trodAll_nil r0
  obtain rfl : args = #[v0] := by cases args; simp_all
  obtain ⟨A0, n0, c0, bs0, rfl, hr0, hn0⟩ := arg_bytes Try.underlying39 Try.underlying5 (by kernel_rfl) (hval 0 39 v0 rfl rfl) h0
  refine (walk W A0 n0 c0 bs0 hr0 hn0).mono fun e W' ⟨he, hb⟩ => ?_
  subst he
  exact ⟨_, rfl, law_post laidOut (by
    rw [show Try.f5.params.toList = [39] from rfl]
    intro t ht
    rw [List.mem_singleton.1 ht]; exact ⟨by kernel_rfl, of_decide_eq_true (by kernel_rfl)⟩) rfl Try.underlying4 rfl rfl hW' hb⟩

set_option maxRecDepth 100000 in
theorem closed : joinedFacts Try.prog 5 Try.f5 Rows.fnVerdictsSpec Rows.fnVerdictsRow = true := by
  unfold joinedFacts
  rw [mayEnter_ok, liftsFinal_ok, make_ok]
  change _ = true
  kernel_rfl

theorem holds : Rows.FnVerdictsSaid :=
  OpenClaim.holds_of_wide 5 Try.f5 rfl rfl rfl rfl rfl rfl rfl ⟨rfl, rfl, rfl, rfl, rfl⟩ rfl rfl rfl rfl rfl (by kernel_rfl) Try.func5 closed
    (of_decide_eq_true (by kernel_rfl)) (by unfold Func.isWrapper; first | (rw [if_pos (by decide +kernel)]; kernel_rfl) | (rw [if_neg (by decide +kernel)]; exact ⟨rfl, rfl⟩))
    (fun os started H enc _ => lifted os started H enc)
end FnVerdicts
end Go.Proofs.Ytjehkjdehkdjcaa
