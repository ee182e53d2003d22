/- FnExactSameVerdict: the program's SameVerdict returns what the reference's returns, for all arguments. Conditions: none. -/
import Derived.Test.YtlfbmedgkkfalaaRow
import Derived.Test.YtlfbmedgkkfalaaHold
import Derived.Test.YtlfbmedgkkfalaaRow2
import Derived.Test.YtlfbmedgkkfalaaVerD
import Derived.Test.YtlfbmedgkkfalaaKit11
import Derived.Deep.DeepCutAuto
namespace Go.Proofs.Ytlfbmedgkkfalaa
open Go.ChangeShapes Go.WideShapes Go.ChangeAt Go.RowKit
namespace SameVerdict
theorem tv_fn : (Try.f26.name == "runtime.NumGoroutine") = false ∧ Try.f26.body.isSome = true := ⟨by kernel_rfl, by kernel_rfl⟩
theorem sv_fn : (Try.f25.name == "runtime.NumGoroutine") = false ∧ Try.f25.body.isSome = true := ⟨by kernel_rfl, by kernel_rfl⟩
theorem ev_fn : (Try.f28.name == "runtime.NumGoroutine") = false ∧ Try.f28.body.isSome = true := ⟨by kernel_rfl, by kernel_rfl⟩

set_option maxRecDepth 20000 in
set_option maxHeartbeats 40000000 in
theorem walk (w : World) (x : Vdt) (A0 : Option Addr) (n0 c0 : Nat) (zs0 : List Int) (h00 : RI w w.heap.size A0 n0 zs0) (hm0 : n0 ≤ maxLen) (y : Vdt) (A1 : Option Addr) (n1 c1 : Nat) (zs1 : List Int) (h11 : RI w w.heap.size A1 n1 zs1) (hm1 : n1 ≤ maxLen) :
    Calls Try.prog 3 #[.agg #[.int .i64 x.st, .int .i64 x.kd, .int .i64 x.rq, .int .i64 x.tm, .int .i64 x.md, .int .i64 x.rd, .int .i64 x.sl, .int .i64 x.mb, .slice A0 n0 c0], .agg #[.int .i64 y.st, .int .i64 y.kd, .int .i64 y.rq, .int .i64 y.tm, .int .i64 y.md, .int .i64 y.rd, .int .i64 y.sl, .int .i64 y.mb, .slice A1 n1 c1]] w fun e w' => e = .returned (.bool true) ∧ Below w.heap.size w w' := by
  have hb0 : Below w.heap.size w ((w.alloc (.cells #[.int .i64 x.st, .int .i64 x.kd, .int .i64 x.rq, .int .i64 x.tm, .int .i64 x.md, .int .i64 x.rd, .int .i64 x.sl, .int .i64 x.mb, .slice A0 n0 c0] 28)).alloc (.cells #[.int .i64 y.st, .int .i64 y.kd, .int .i64 y.rq, .int .i64 y.tm, .int .i64 y.md, .int .i64 y.rd, .int .i64 y.sl, .int .i64 y.mb, .slice A1 n1 c1] 28)) := below_alloc (below_alloc (Below.refl _ _) (Nat.le_refl _) _) (Nat.le_refl _) _
  have h0 := h00.up hb0
  have h1 := h11.up hb0
  have kx : BlkL ((w.alloc (.cells #[.int .i64 x.st, .int .i64 x.kd, .int .i64 x.rq, .int .i64 x.tm, .int .i64 x.md, .int .i64 x.rd, .int .i64 x.sl, .int .i64 x.mb, .slice A0 n0 c0] 28)).alloc (.cells #[.int .i64 y.st, .int .i64 y.kd, .int .i64 y.rq, .int .i64 y.tm, .int .i64 y.md, .int .i64 y.rd, .int .i64 y.sl, .int .i64 y.mb, .slice A1 n1 c1] 28)) w.heap.size 28 [.int .i64 x.st, .int .i64 x.kd, .int .i64 x.rq, .int .i64 x.tm, .int .i64 x.md, .int .i64 x.rd, .int .i64 x.sl, .int .i64 x.mb, .slice A0 n0 c0] := (BlkL.new w _ _ rfl).alloc _
  have ky : BlkL ((w.alloc (.cells #[.int .i64 x.st, .int .i64 x.kd, .int .i64 x.rq, .int .i64 x.tm, .int .i64 x.md, .int .i64 x.rd, .int .i64 x.sl, .int .i64 x.mb, .slice A0 n0 c0] 28)).alloc (.cells #[.int .i64 y.st, .int .i64 y.kd, .int .i64 y.rq, .int .i64 y.tm, .int .i64 y.md, .int .i64 y.rd, .int .i64 y.sl, .int .i64 y.mb, .slice A1 n1 c1] 28)) (w.heap.size + 1) 28 [.int .i64 y.st, .int .i64 y.kd, .int .i64 y.rq, .int .i64 y.tm, .int .i64 y.md, .int .i64 y.rd, .int .i64 y.sl, .int .i64 y.mb, .slice A1 n1 c1] := BlkL.new _ _ _ (by simp)
  obtain ⟨w0, hw0⟩ : ∃ z, (w.alloc (.cells #[.int .i64 x.st, .int .i64 x.kd, .int .i64 x.rq, .int .i64 x.tm, .int .i64 x.md, .int .i64 x.rd, .int .i64 x.sl, .int .i64 x.mb, .slice A0 n0 c0] 28)).alloc (.cells #[.int .i64 y.st, .int .i64 y.kd, .int .i64 y.rq, .int .i64 y.tm, .int .i64 y.md, .int .i64 y.rd, .int .i64 y.sl, .int .i64 y.mb, .slice A1 n1 c1] 28) = z := ⟨_, rfl⟩
  rw [hw0] at hb0 h0 h1 kx ky
  have HB := Lib.hid hb0
  have KX := Lib.hid kx
  have KY := Lib.hid ky
  clear hb0 kx ky h00 h11
  have x0 := KX.out.c 0 rfl
  have x1 := KX.out.c 1 rfl
  have x2 := KX.out.c 2 rfl
  have x3 := KX.out.c 3 rfl
  have x4 := KX.out.c 4 rfl
  have x5 := KX.out.c 5 rfl
  have x6 := KX.out.c 6 rfl
  have x7 := KX.out.c 7 rfl
  have x8 := KX.out.c 8 rfl
  by_cases hs0 : (n0 : Int) ≤ 1048576
  case neg =>
    go_enter Try.func3, Try.ntmps3
    go_wp2_with fail
    refine (szVerdict_any x A0 n0 c0 1048576 _ hm0 (by omega) (by omega)).mono ?_
    rw [szL_neg (by omega)]
    rintro e w1 ⟨rfl, hb1⟩
    go_wp2
    go_ret
    exact ⟨rfl, below_next hb1 HB.out (Nat.le_refl _)⟩
  by_cases hs1 : (n1 : Int) ≤ 1048576 - (n0 : Int)
  case neg =>
    go_enter Try.func3, Try.ntmps3
    go_wp2_with fail
    refine (szVerdict_any x A0 n0 c0 1048576 _ hm0 (by omega) (by omega)).mono ?_
    rw [szL_pos (by omega)]
    rintro e w1 ⟨rfl, hb1⟩
    clear x0 x1 x2 x3 x4 x5 x6 x7 x8
    have KY1 := Lib.hid (BlkL.next hb1 KY.out)
    have y0 := KY1.out.c 0 rfl
    have y1 := KY1.out.c 1 rfl
    have y2 := KY1.out.c 2 rfl
    have y3 := KY1.out.c 3 rfl
    have y4 := KY1.out.c 4 rfl
    have y5 := KY1.out.c 5 rfl
    have y6 := KY1.out.c 6 rfl
    have y7 := KY1.out.c 7 rfl
    have y8 := KY1.out.c 8 rfl
    have HB1 := Lib.hid (show Below w0.heap.size w0 w1 from hb1)
    clear hb1
    go_wp2_with fail
    refine (szVerdict_any y A1 n1 c1 _ _ hm1 (by omega) (by omega)).mono ?_
    rw [szL_neg (by omega)]
    rintro e w2 ⟨rfl, hb2⟩
    go_wp2
    go_ret
    exact ⟨rfl, below_next hb2 (below_next HB1.out HB.out (Nat.le_refl _)) (Nat.le_refl _)⟩
  have hn0 : n0 ≤ 1099511627776 := by omega
  have hn1 : n1 ≤ 1099511627776 := by omega
  obtain ⟨V, hV⟩ : ∃ v, sV x y zs0 zs1 = v := ⟨_, rfl⟩
  have HV := Lib.hid hV
  clear hV
  go_enter Try.func3, Try.ntmps3
  go_wp2_with fail
  refine (szVerdict_any x A0 n0 c0 1048576 _ hm0 (by omega) (by omega)).mono ?_
  rw [szL_pos (by omega)]
  rintro e w1 ⟨rfl, hb1⟩
  clear x0 x1 x2 x3 x4 x5 x6 x7 x8
  have KY1 := Lib.hid (BlkL.next hb1 KY.out)
  have y0 := KY1.out.c 0 rfl
  have y1 := KY1.out.c 1 rfl
  have y2 := KY1.out.c 2 rfl
  have y3 := KY1.out.c 3 rfl
  have y4 := KY1.out.c 4 rfl
  have y5 := KY1.out.c 5 rfl
  have y6 := KY1.out.c 6 rfl
  have y7 := KY1.out.c 7 rfl
  have y8 := KY1.out.c 8 rfl
  have HB1 := Lib.hid (show Below w0.heap.size w0 w1 from hb1)
  clear hb1
  go_wp2_with fail
  refine (szVerdict_any y A1 n1 c1 _ _ hm1 (by omega) (by omega)).mono ?_
  rw [szL_pos (by omega)]
  rintro e w2 ⟨rfl, hb2⟩
  clear y0 y1 y2 y3 y4 y5 y6 y7 y8
  have hB2 : Below w0.heap.size w0 w2 := below_next hb2 HB1.out (Nat.le_refl _)
  clear hb2 hm0 hm1
  have KX2 := Lib.hid (BlkL.next hB2 KX.out)
  have KY2 := Lib.hid (BlkL.next hB2 KY.out)
  have g02 := h0.up hB2
  have g12 := h1.up hB2
  have x0 := KX2.out.c 0 rfl
  have x1 := KX2.out.c 1 rfl
  have x2 := KX2.out.c 2 rfl
  have x3 := KX2.out.c 3 rfl
  have x4 := KX2.out.c 4 rfl
  have x5 := KX2.out.c 5 rfl
  have x6 := KX2.out.c 6 rfl
  have x7 := KX2.out.c 7 rfl
  have x8 := KX2.out.c 8 rfl
  have y0 := KY2.out.c 0 rfl
  have y1 := KY2.out.c 1 rfl
  have y2 := KY2.out.c 2 rfl
  have y3 := KY2.out.c 3 rfl
  have y4 := KY2.out.c 4 rfl
  have y5 := KY2.out.c 5 rfl
  have y6 := KY2.out.c 6 rfl
  have y7 := KY2.out.c 7 rfl
  have y8 := KY2.out.c 8 rfl
  have HB2 := Lib.hid hB2
  clear hB2
  go_upto_region 8 with fail
  go_cut [6] (fun v wc => v = .bool V ∧ Below w2.heap.size w2 wc)
  case first =>
    go_region_law (first
      | ((refine step_call 26 Try.func26 tv_fn.1 tv_fn.2 rfl rfl #[.agg #[.int .i64 x.st, .int .i64 x.kd, .int .i64 x.rq, .int .i64 x.tm, .int .i64 x.md, .int .i64 x.rd, .int .i64 x.sl, .int .i64 x.mb, .slice A0 n0 c0]] ?_ ?_); (simp [Act.eval]); (refine (toVerdict_any x A0 n0 c0 zs0 _ (by first | exact g02 | exact RI.next_drew HBY.out g02) hn0).mono ?_); rintro e wX ⟨AX, cX, rfl, hox, hbx⟩; (refine ⟨_, rfl, ?_⟩); (try (have KYwX := Lib.hid (show BlkL wX (w.heap.size + 1) 28 [.int .i64 y.st, .int .i64 y.kd, .int .i64 y.rq, .int .i64 y.tm, .int .i64 y.md, .int .i64 y.rd, .int .i64 y.sl, .int .i64 y.mb, .slice A1 n1 c1] from BlkL.next (w := w2.drew) hbx KY2.out); have yx0 := KYwX.out.c 0 rfl; have yx1 := KYwX.out.c 1 rfl; have yx2 := KYwX.out.c 2 rfl; have yx3 := KYwX.out.c 3 rfl; have yx4 := KYwX.out.c 4 rfl; have yx5 := KYwX.out.c 5 rfl; have yx6 := KYwX.out.c 6 rfl; have yx7 := KYwX.out.c 7 rfl; have yx8 := KYwX.out.c 8 rfl)); have HOX := Lib.hid hox; have HBX := Lib.hid (show Below _ _ _ from hbx); clear hox hbx)
      | ((refine step_call 26 Try.func26 tv_fn.1 tv_fn.2 rfl rfl #[.agg #[.int .i64 y.st, .int .i64 y.kd, .int .i64 y.rq, .int .i64 y.tm, .int .i64 y.md, .int .i64 y.rd, .int .i64 y.sl, .int .i64 y.mb, .slice A1 n1 c1]] ?_ ?_); (simp [Act.eval]); (refine (toVerdict_any y A1 n1 c1 zs1 _ (by first | exact g12 | exact RI.next_drew HBX.out g12) hn1).mono ?_); rintro e wY ⟨AY, cY, rfl, hoy, hby⟩; (refine ⟨_, rfl, ?_⟩); (try (have KXwY := Lib.hid (show BlkL wY w.heap.size 28 [.int .i64 x.st, .int .i64 x.kd, .int .i64 x.rq, .int .i64 x.tm, .int .i64 x.md, .int .i64 x.rd, .int .i64 x.sl, .int .i64 x.mb, .slice A0 n0 c0] from BlkL.next (w := w2.drew) hby KX2.out); have xy0 := KXwY.out.c 0 rfl; have xy1 := KXwY.out.c 1 rfl; have xy2 := KXwY.out.c 2 rfl; have xy3 := KXwY.out.c 3 rfl; have xy4 := KXwY.out.c 4 rfl; have xy5 := KXwY.out.c 5 rfl; have xy6 := KXwY.out.c 6 rfl; have xy7 := KXwY.out.c 7 rfl; have xy8 := KXwY.out.c 8 rfl)); have HOY := Lib.hid hoy; have HBY := Lib.hid (show Below _ _ _ from hby); clear hoy hby)
      | ((refine step_call 25 Try.func25 sv_fn.1 sv_fn.2 rfl rfl #[aggV x AX n0 cX, aggV y AY n1 cY] ?_ ?_); (simp [Act.eval]); (refine (sSame_any x y AX AY n0 n1 cX cY zs0 zs1 _ (by first | exact HOX.out.reads | exact HOX.out.reads.up HBY.out) (by first | exact HOY.out.reads | exact HOY.out.reads.up HBX.out) hn0 hn1).mono ?_); (rw [HV.out]); rintro e wS ⟨rfl, hbS⟩; (refine ⟨_, rfl, ?_⟩); have HBS := Lib.hid hbS; clear hbS))
    all_goals
      go_wp2_with fail
      go_meet
      exact ⟨rfl, by first | exact below_next HBS.out (below_next HBY.out (below_next_drew HBX.out (Below.refl w2.heap.size w2) (Nat.le_refl _)) (Nat.le_refl _)) (Nat.le_refl _) | exact below_next HBS.out (below_next HBX.out (below_next_drew HBY.out (Below.refl w2.heap.size w2) (Nat.le_refl _)) (Nat.le_refl _)) (Nat.le_refl _)⟩
  case rest =>
    obtain ⟨rfl, hb3⟩ := hcut
    clear x0 x1 x2 x3 x4 x5 x6 x7 x8
    clear y0 y1 y2 y3 y4 y5 y6 y7 y8
    have hB3 : Below w0.heap.size w0 wc := below_next hb3 HB2.out (Nat.le_refl _)
    clear hb3
    have KX3 := Lib.hid (BlkL.next hB3 KX.out)
    have KY3 := Lib.hid (BlkL.next hB3 KY.out)
    have g03 := h0.up hB3
    have g13 := h1.up hB3
    have HB3 := Lib.hid hB3
    clear hB3
    have x0 := KX3.out.c 0 rfl
    have x1 := KX3.out.c 1 rfl
    have x2 := KX3.out.c 2 rfl
    have x3 := KX3.out.c 3 rfl
    have x4 := KX3.out.c 4 rfl
    have x5 := KX3.out.c 5 rfl
    have x6 := KX3.out.c 6 rfl
    have x7 := KX3.out.c 7 rfl
    have x8 := KX3.out.c 8 rfl
    go_wp2_with fail
    refine (toVerdict_any x A0 n0 c0 zs0 _ g03 hn0).mono ?_
    rintro e w4 ⟨A7, c7, rfl, ho7, hb4⟩
    unfold aggV
    clear x0 x1 x2 x3 x4 x5 x6 x7 x8
    have HO7 := Lib.hid ho7
    have KY4 := Lib.hid (BlkL.next hb4 KY3.out)
    have g14 := g13.up hb4
    have HB4 := Lib.hid (show Below w0.heap.size w0 w4 from below_next hb4 HB3.out (Nat.le_refl _))
    have hy4 := KY4.out.lt
    clear ho7 hb4
    have y0 := KY4.out.c 0 rfl
    have y1 := KY4.out.c 1 rfl
    have y2 := KY4.out.c 2 rfl
    have y3 := KY4.out.c 3 rfl
    have y4 := KY4.out.c 4 rfl
    have y5 := KY4.out.c 5 rfl
    have y6 := KY4.out.c 6 rfl
    have y7 := KY4.out.c 7 rfl
    have y8 := KY4.out.c 8 rfl
    go_wp2_with fail
    refine (toVerdict_any y A1 n1 c1 zs1 _ (by exact g14.alloc' _) hn1).mono ?_
    rintro e w5 ⟨A8, c8, rfl, ho8, hb5⟩
    unfold aggV
    clear y0 y1 y2 y3 y4 y5 y6 y7 y8
    have HO8 := Lib.hid ho8
    have k7 : BlkL w5 w4.heap.size 35 [.int .i64 x.st, .int .i64 x.kd, .int .i64 x.rq, .int .i64 x.tm, .int .i64 x.md, .int .i64 x.rd, .int .i64 x.sl, .int .i64 x.mb, .slice A7 n0 c7] := BlkL.next hb5 (BlkL.new w4 _ _ rfl)
    have K7 := Lib.hid k7
    have h75 := k7.lt
    have HO75 := Lib.hid ((HO7.out.alloc _).below hb5)
    have HB5 := Lib.hid (show Below w0.heap.size w0 w5 from below_next hb5 (below_alloc HB4.out (Nat.le_refl _) _) (Nat.le_refl _))
    clear k7 ho8 hb5
    have s0 := K7.out.c 0 rfl
    have s1 := K7.out.c 1 rfl
    have s2 := K7.out.c 2 rfl
    have s3 := K7.out.c 3 rfl
    have s4 := K7.out.c 4 rfl
    have s5 := K7.out.c 5 rfl
    have s6 := K7.out.c 6 rfl
    have s7 := K7.out.c 7 rfl
    have s8 := K7.out.c 8 rfl
    go_wp2_with fail
    refine (iSame_any x y A7 A8 n0 n1 c7 c8 zs0 zs1 _ (by exact (HO75.out.alloc _).reads) (by exact (HO8.out.alloc _).reads) hn0 hn1).mono ?_
    rw [HV.out]
    rintro e w6 ⟨rfl, hb6⟩
    clear s0 s1 s2 s3 s4 s5 s6 s7 s8
    have K76 := Lib.hid (show BlkL w6 w4.heap.size 35 [.int .i64 x.st, .int .i64 x.kd, .int .i64 x.rq, .int .i64 x.tm, .int .i64 x.md, .int .i64 x.rd, .int .i64 x.sl, .int .i64 x.mb, .slice A7 n0 c7] from BlkL.next hb6 (K7.out.alloc _))
    have K86 := Lib.hid (show BlkL w6 w5.heap.size 35 [.int .i64 y.st, .int .i64 y.kd, .int .i64 y.rq, .int .i64 y.tm, .int .i64 y.md, .int .i64 y.rd, .int .i64 y.sl, .int .i64 y.mb, .slice A8 n1 c8] from BlkL.next hb6 (BlkL.new w5 _ _ rfl))
    have HO76 := Lib.hid ((HO75.out.alloc _).below hb6)
    have HO86 := Lib.hid ((HO8.out.alloc _).below hb6)
    have hB6 : Below w0.heap.size w0 w6 := below_next hb6 (below_alloc HB5.out (Nat.le_refl _) _) (Nat.le_refl _)
    clear hb6
    have KX6 := Lib.hid (BlkL.next hB6 KX.out)
    have KY6 := Lib.hid (BlkL.next hB6 KY.out)
    have g06 := h0.up hB6
    have g16 := h1.up hB6
    have HB6 := Lib.hid hB6
    clear hB6
    have s0 := K76.out.c 0 rfl
    have s1 := K76.out.c 1 rfl
    have s2 := K76.out.c 2 rfl
    have s3 := K76.out.c 3 rfl
    have s4 := K76.out.c 4 rfl
    have s5 := K76.out.c 5 rfl
    have s6 := K76.out.c 6 rfl
    have s7 := K76.out.c 7 rfl
    have s8 := K76.out.c 8 rfl
    have x0 := KX6.out.c 0 rfl
    have x1 := KX6.out.c 1 rfl
    have x2 := KX6.out.c 2 rfl
    have x3 := KX6.out.c 3 rfl
    have x4 := KX6.out.c 4 rfl
    have x5 := KX6.out.c 5 rfl
    have x6 := KX6.out.c 6 rfl
    have x7 := KX6.out.c 7 rfl
    have x8 := KX6.out.c 8 rfl
    go_upto_region 14 with fail
    go_cut [39] (fun v wz => v = .bool false ∧ Below w6.heap.size w6 wz)
    case first =>
      go_region_law (first
        | ((refine step_call 26 Try.func26 tv_fn.1 tv_fn.2 rfl rfl #[.agg #[.int .i64 x.st, .int .i64 x.kd, .int .i64 x.rq, .int .i64 x.tm, .int .i64 x.md, .int .i64 x.rd, .int .i64 x.sl, .int .i64 x.mb, .slice A0 n0 c0]] ?_ ?_); (simp [Act.eval]); (refine (toVerdict_any x A0 n0 c0 zs0 _ (by exact g06) hn0).mono ?_); rintro e wX ⟨AX, cX, rfl, hoX, hbX⟩; (refine ⟨_, rfl, ?_⟩); (have K9X := Lib.hid (show BlkL wX w4.heap.size 35 [.int .i64 x.st, .int .i64 x.kd, .int .i64 x.rq, .int .i64 x.tm, .int .i64 x.md, .int .i64 x.rd, .int .i64 x.sl, .int .i64 x.mb, .slice A7 n0 c7] from BlkL.next (w := w6.drew) hbX K76.out)); have sX0 := K9X.out.c 0 rfl; have sX1 := K9X.out.c 1 rfl; have sX2 := K9X.out.c 2 rfl; have sX3 := K9X.out.c 3 rfl; have sX4 := K9X.out.c 4 rfl; have sX5 := K9X.out.c 5 rfl; have sX6 := K9X.out.c 6 rfl; have sX7 := K9X.out.c 7 rfl; have sX8 := K9X.out.c 8 rfl; have HOX := Lib.hid hoX; have HBX := Lib.hid (show Below w6.drew.heap.size w6.drew wX from hbX); clear hoX hbX)
        | ((refine step_call 28 Try.func28 ev_fn.1 ev_fn.2 rfl rfl #[.agg #[.int .i64 x.st, .int .i64 x.kd, .int .i64 x.rq, .int .i64 x.tm, .int .i64 x.md, .int .i64 x.rd, .int .i64 x.sl, .int .i64 x.mb, .slice A7 n0 c7], aggV x AX n0 cX] ?_ ?_); (simp [Act.eval]); (refine (eqVerdict_self x A7 AX n0 c7 cX zs0 _ (by exact (HO76.out.below (below_next_drew HBX.out (Below.refl w6.heap.size w6) (Nat.le_refl _))).reads) (by exact HOX.out.reads) hn0).mono ?_); rintro e wE ⟨rfl, hbE⟩; (refine ⟨_, rfl, ?_⟩); have HBE := Lib.hid hbE; clear hbE))
      all_goals
        go_wp2_with fail
        go_meet
        exact ⟨rfl, below_next HBE.out (below_next_drew HBX.out (Below.refl w6.heap.size w6) (Nat.le_refl _)) (Nat.le_refl _)⟩
    case rest =>
      obtain ⟨rfl, hb7⟩ := hcut
      clear s0 s1 s2 s3 s4 s5 s6 s7 s8
      clear x0 x1 x2 x3 x4 x5 x6 x7 x8
      have hBd : Below w0.heap.size w0 wc := below_next hb7 HB6.out (Nat.le_refl _)
      have K8d := Lib.hid (BlkL.next hb7 K86.out)
      have HO8d := Lib.hid (HO86.out.below hb7)
      clear hb7
      have KXd := Lib.hid (BlkL.next hBd KX.out)
      have KYd := Lib.hid (BlkL.next hBd KY.out)
      have g0d := h0.up hBd
      have g1d := h1.up hBd
      have HBd := Lib.hid hBd
      clear hBd
      have s0 := K8d.out.c 0 rfl
      have s1 := K8d.out.c 1 rfl
      have s2 := K8d.out.c 2 rfl
      have s3 := K8d.out.c 3 rfl
      have s4 := K8d.out.c 4 rfl
      have s5 := K8d.out.c 5 rfl
      have s6 := K8d.out.c 6 rfl
      have s7 := K8d.out.c 7 rfl
      have s8 := K8d.out.c 8 rfl
      have x0 := KYd.out.c 0 rfl
      have x1 := KYd.out.c 1 rfl
      have x2 := KYd.out.c 2 rfl
      have x3 := KYd.out.c 3 rfl
      have x4 := KYd.out.c 4 rfl
      have x5 := KYd.out.c 5 rfl
      have x6 := KYd.out.c 6 rfl
      have x7 := KYd.out.c 7 rfl
      have x8 := KYd.out.c 8 rfl
      go_upto_region 16 with fail
      go_cut [44] (fun v wz => v = .bool false ∧ Below wc.heap.size wc wz)
      case first =>
        go_region_law (first
          | ((refine step_call 26 Try.func26 tv_fn.1 tv_fn.2 rfl rfl #[.agg #[.int .i64 y.st, .int .i64 y.kd, .int .i64 y.rq, .int .i64 y.tm, .int .i64 y.md, .int .i64 y.rd, .int .i64 y.sl, .int .i64 y.mb, .slice A1 n1 c1]] ?_ ?_); (simp [Act.eval]); (refine (toVerdict_any y A1 n1 c1 zs1 _ (by exact g1d) hn1).mono ?_); rintro e wX ⟨AX, cX, rfl, hoX, hbX⟩; (refine ⟨_, rfl, ?_⟩); (have K9X := Lib.hid (show BlkL wX w5.heap.size 35 [.int .i64 y.st, .int .i64 y.kd, .int .i64 y.rq, .int .i64 y.tm, .int .i64 y.md, .int .i64 y.rd, .int .i64 y.sl, .int .i64 y.mb, .slice A8 n1 c8] from BlkL.next (w := wc.drew) hbX K8d.out)); have sX0 := K9X.out.c 0 rfl; have sX1 := K9X.out.c 1 rfl; have sX2 := K9X.out.c 2 rfl; have sX3 := K9X.out.c 3 rfl; have sX4 := K9X.out.c 4 rfl; have sX5 := K9X.out.c 5 rfl; have sX6 := K9X.out.c 6 rfl; have sX7 := K9X.out.c 7 rfl; have sX8 := K9X.out.c 8 rfl; have HOX := Lib.hid hoX; have HBX := Lib.hid (show Below wc.drew.heap.size wc.drew wX from hbX); clear hoX hbX)
          | ((refine step_call 28 Try.func28 ev_fn.1 ev_fn.2 rfl rfl #[.agg #[.int .i64 y.st, .int .i64 y.kd, .int .i64 y.rq, .int .i64 y.tm, .int .i64 y.md, .int .i64 y.rd, .int .i64 y.sl, .int .i64 y.mb, .slice A8 n1 c8], aggV y AX n1 cX] ?_ ?_); (simp [Act.eval]); (refine (eqVerdict_self y A8 AX n1 c8 cX zs1 _ (by exact (HO8d.out.below (below_next_drew HBX.out (Below.refl wc.heap.size wc) (Nat.le_refl _))).reads) (by exact HOX.out.reads) hn1).mono ?_); rintro e wE ⟨rfl, hbE⟩; (refine ⟨_, rfl, ?_⟩); have HBE := Lib.hid hbE; clear hbE))
        all_goals
          go_wp2_with fail
          go_meet
          exact ⟨rfl, below_next HBE.out (below_next_drew HBX.out (Below.refl wc.heap.size wc) (Nat.le_refl _)) (Nat.le_refl _)⟩
      case rest =>
        obtain ⟨rfl, hb9⟩ := hcut
        go_wp2
        go_ret
        exact ⟨rfl, HB.out.trans ((below_next hb9 HBd.out (Nat.le_refl _)).mono HB.out.size)⟩

set_option maxRecDepth 100000 in
theorem lifted (os : Os) (started : os.Started) (H : Type) (enc : TypeId × Value → H) :
    ReturnsInHanded {} Try.checked os 3 .any (Rows.fnExactSameVerdictSpec.pre6 enc Try.prog Try.f3 Rows.fnExactSameVerdictRow.domain false) (Rows.fnExactSameVerdictSpec.post enc Try.prog Try.f3 false true false false) := by
  refine returnsInHanded_of_change (C := Try.checked) own started (by kernel_rfl) Try.func3
    (ChangeSpec.witness6 (enc := enc) (C := Try.checked) false ⟨#[], #[.agg #[.int .i64 0, .int .i64 0, .int .i64 0, .int .i64 0, .int .i64 0, .int .i64 0, .int .i64 0, .int .i64 0, .slice none 0 0], .agg #[.int .i64 0, .int .i64 0, .int .i64 0, .int .i64 0, .int .i64 0, .int .i64 0, .int .i64 0, .int .i64 0, .slice none 0 0]], []⟩ 8 (by kernel_rfl) (by kernel_rfl) (by kernel_rfl) (by kernel_rfl)) ?_
  intro W base args ds gs before hval0 hW _ _
  have hval : ∀ (j : Nat) t v, Try.f3.params[j]? = some t → args[j]? = some v → Value.okWide Try.prog W .any base t v := hval0
  have hW' := hW
  obtain ⟨p, q, hA0, hV, rfl, hfz, hnd⟩ := hW
  have hA : DataW.TrodAll enc Try.prog W 0 (fun _ => true) true Try.f3.params.toList args.toList ds p := hA0
  rw [Try.params3] at hA hval
  obtain ⟨v0, vs0, d0, ds0, p0, q0, hargs, rfl, rfl, h0, r0⟩ := trodAll_cons hA
  obtain ⟨v1, vs1, d1, ds1, p1, q1, rfl, rfl, rfl, h1, r1⟩ := trodAll_cons r0
  obtain ⟨rfl, rfl, rfl⟩ := trodAll_nil r1
  obtain rfl : args = #[v0, v1] := by cases args; simp_all
  obtain ⟨f0, A0, n0, c0, zs0, rfl, _, hr0, _, hn0⟩ := arg_verdict Try.underlying28 (by kernel_rfl) ⟨rfl, rfl⟩ ⟨rfl, rfl⟩ Try.underlying26 (by kernel_rfl) ⟨rfl, rfl⟩ ⟨rfl, rfl⟩ ⟨rfl, rfl⟩ ⟨rfl, rfl⟩ Try.underlying23 (by kernel_rfl) ⟨rfl, rfl⟩ ⟨rfl, rfl⟩ ⟨rfl, rfl⟩ ⟨rfl, rfl⟩ ⟨rfl, rfl⟩ Try.underlying24 (by kernel_rfl) Try.underlying2 (by kernel_rfl) (hval 0 28 v0 rfl rfl) h0
  obtain ⟨f1, A1, n1, c1, zs1, rfl, _, hr1, _, hn1⟩ := arg_verdict Try.underlying28 (by kernel_rfl) ⟨rfl, rfl⟩ ⟨rfl, rfl⟩ Try.underlying26 (by kernel_rfl) ⟨rfl, rfl⟩ ⟨rfl, rfl⟩ ⟨rfl, rfl⟩ ⟨rfl, rfl⟩ Try.underlying23 (by kernel_rfl) ⟨rfl, rfl⟩ ⟨rfl, rfl⟩ ⟨rfl, rfl⟩ ⟨rfl, rfl⟩ ⟨rfl, rfl⟩ Try.underlying24 (by kernel_rfl) Try.underlying2 (by kernel_rfl) (hval 1 28 v1 rfl rfl) h1
  refine (walk W f0 A0 n0 c0 zs0 hr0 hn0 f1 A1 n1 c1 zs1 hr1 hn1).mono fun e W' ⟨he, hb⟩ => ?_
  subst he
  exact ⟨_, rfl, law_post laidOut (by
    rw [show Try.f3.params.toList = [28, 28] from rfl]
    intro t ht
    simp only [List.mem_cons, List.not_mem_nil, or_false] at ht
    rcases ht with rfl | rfl <;> exact ⟨by kernel_rfl, of_decide_eq_true (by kernel_rfl)⟩) rfl Try.underlying4 rfl rfl hW' hb⟩

set_option maxRecDepth 100000 in
theorem closed : joinedFacts Try.prog 3 Try.f3 Rows.fnExactSameVerdictSpec Rows.fnExactSameVerdictRow = true := by
  unfold joinedFacts
  rw [mayEnter_ok, liftsFinal_ok, make_ok]
  change _ = true
  kernel_rfl

theorem holds : Rows.FnExactSameVerdictSaid :=
  OpenClaim.holds_of_wide 3 Try.f3 rfl rfl rfl rfl rfl rfl rfl ⟨rfl, rfl, rfl, rfl, rfl⟩ rfl rfl rfl rfl rfl (by kernel_rfl) Try.func3 closed
    (of_decide_eq_true (by kernel_rfl)) (by unfold Func.isWrapper; first | (rw [if_pos (by decide +kernel)]; kernel_rfl) | (rw [if_neg (by decide +kernel)]; exact ⟨rfl, rfl⟩))
    (fun os started H enc _ => lifted os started H enc)
end SameVerdict
end Go.Proofs.Ytlfbmedgkkfalaa
