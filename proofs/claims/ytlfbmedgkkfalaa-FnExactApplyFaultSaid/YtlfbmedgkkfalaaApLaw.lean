/- FnExactApplyFault: the program's ApplyFault returns what the reference's returns, for all arguments. Conditions: none. -/
import Derived.Test.YtlfbmedgkkfalaaRow
import Derived.Test.YtlfbmedgkkfalaaHold
import Derived.Test.YtlfbmedgkkfalaaAp
import Derived.Deep.DeepCutAuto
namespace Go.Proofs.Ytlfbmedgkkfalaa
open Go.ChangeShapes Go.WideShapes Go.ChangeAt Go.RowKit
namespace ApplyFault
theorem conv_fn : (Try.f62.name == "runtime.NumGoroutine") = false ∧ Try.f62.body.isSome = true := ⟨by kernel_rfl, by kernel_rfl⟩
theorem flt_fn : (Try.f63.name == "runtime.NumGoroutine") = false ∧ Try.f63.body.isSome = true := ⟨by kernel_rfl, by kernel_rfl⟩
theorem s_fn : (Try.f61.name == "runtime.NumGoroutine") = false ∧ Try.f61.body.isSome = true := ⟨by kernel_rfl, by kernel_rfl⟩
theorem i_fn : (Try.f64.name == "runtime.NumGoroutine") = false ∧ Try.f64.body.isSome = true := ⟨by kernel_rfl, by kernel_rfl⟩

set_option maxRecDepth 20000 in
set_option maxHeartbeats 40000000 in
theorem walk (w : World) (A0 : Option Addr) (n0 c0 : Nat) (zs0 : List Int) (h00 : RI w w.heap.size A0 n0 zs0) (_ : ∀ i, i < n0 → I64 (gi zs0 i)) (hm0 : n0 ≤ maxLen) (f : Flt) (_ : I64 f.kd) (_ : I64 f.pos) (_ : I64 f.len) (_ : I64 f.val) :
    Calls Try.prog 9 #[.slice A0 n0 c0, .agg #[.int .i64 f.kd, .int .i64 f.pos, .int .i64 f.len, .int .i64 f.val]] w fun e w' => e = .returned (.bool true) ∧ Below w.heap.size w w' := by
  unfold maxLen at hm0
  by_cases hs : n0 ≤ 1048576
  case neg =>
    go_enter Try.func9, Try.ntmps9
    go_wp2
    go_ret
    exact ⟨rfl, (Below.refl _ _).alloc (Nat.le_refl _) _⟩
  obtain ⟨k, p, l, v⟩ := f
  have hn0 : n0 ≤ 1099511627776 := by omega
  have hRl0 : (res zs0 ⟨k, p, l, v⟩).length ≤ 1099511627776 := Nat.le_trans (res_len _ _) (by omega)
  obtain ⟨R, hR⟩ : ∃ x, res zs0 ⟨k, p, l, v⟩ = x := ⟨_, rfl⟩
  obtain ⟨C, hC⟩ : ∃ x, cod zs0 ⟨k, p, l, v⟩ = x := ⟨_, rfl⟩
  rw [hR] at hRl0
  have HR := Lib.hid hR
  have HC := Lib.hid hC
  clear hR hC hm0
  have hb0 : Below w.heap.size w (w.alloc (.cells #[.int .i64 k, .int .i64 p, .int .i64 l, .int .i64 v] 73)) := (Below.refl _ _).alloc (Nat.le_refl _) _
  have h0 := h00.up hb0
  have hbx := Blk4.new w 73 (.int .i64 k) (.int .i64 p) (.int .i64 l) (.int .i64 v)
  obtain ⟨w0, hw0⟩ : ∃ x, w.alloc (.cells #[.int .i64 k, .int .i64 p, .int .i64 l, .int .i64 v] 73) = x := ⟨_, rfl⟩
  rw [hw0] at hb0 h0 hbx
  have hx0 := hbx.c0
  have hx1 := hbx.c1
  have hx2 := hbx.c2
  have hx3 := hbx.c3
  have HB := Lib.hid hb0
  clear hb0 h00
  go_enter Try.func9, Try.ntmps9
  go_upto_region 3 with fail
  go_cut [5, 6] (fun va vb wc => ∃ As ns cs, va = .slice As ns cs ∧ vb = .int .i64 C ∧ OwnI 2 wc w0.heap.size As ns cs R ∧ Below w0.heap.size w0 wc)
  case first =>
    go_region_law (first
      | ((refine step_call 62 Try.func62 conv_fn.1 conv_fn.2 rfl rfl #[.slice A0 n0 c0] ?_ ?_); (simp [Act.eval, Act.put]); (refine (toInt64S_any A0 n0 c0 zs0 _ (by first | exact h0 | exact (h0).up HBF.out) hn0).mono ?_); rintro e wT ⟨AT, cT, rfl, hownT, hbT⟩; (refine ⟨_, rfl, ?_⟩); (have hbxT : Blk4 wT w.heap.size 73 (.int .i64 k) (.int .i64 p) (.int .i64 l) (.int .i64 v) := (by first | exact Blk4.next (w := w0.drew) hbT hbx | exact Blk4.next hbT hbxF)); have hT0 := hbxT.c0; have hT1 := hbxT.c1; have hT2 := hbxT.c2; have hT3 := hbxT.c3; have HOT := Lib.hid hownT; have HBT := Lib.hid (show Below _ _ _ from hbT); clear hownT hbT)
      | ((refine step_call 63 Try.func63 flt_fn.1 flt_fn.2 rfl rfl #[.agg #[.int .i64 k, .int .i64 p, .int .i64 l, .int .i64 v]] ?_ ?_); (simp [Act.eval]); (refine (toFault_any k p l v _).mono ?_); rintro e wF ⟨rfl, hbF⟩; (refine ⟨_, rfl, ?_⟩); (have hbxF : Blk4 wF w.heap.size 73 (.int .i64 k) (.int .i64 p) (.int .i64 l) (.int .i64 v) := (by first | exact Blk4.next (w := w0.drew) hbF hbx | exact Blk4.next hbF hbxT)); have hF0 := hbxF.c0; have hF1 := hbxF.c1; have hF2 := hbxF.c2; have hF3 := hbxF.c3; have HBF := Lib.hid (show Below _ _ _ from hbF); clear hbF)
      | ((refine step_call 61 Try.func61 s_fn.1 s_fn.2 rfl rfl #[.slice AT n0 cT, .agg #[.int .i64 k, .int .i64 p, .int .i64 l, .int .i64 v]] ?_ ?_); (simp [Act.eval]); (refine (spec_any AT n0 cT zs0 k p l v _ (by first | exact HOT.out.reads | exact HOT.out.reads.up HBF.out) hn0 HOT.out.pl HOT.out.cap.1 HOT.out.cap.2).mono ?_); rintro e wS ⟨AS, nS, cS, rfl, hownS, hbS⟩; (refine ⟨_, rfl, ?_⟩); (rw [HR.out] at hownS); (rw [HC.out]); have HOS := Lib.hid hownS; have HBS := Lib.hid hbS; clear hownS hbS))
    all_goals
      go_wp2_with fail
      go_meet
      have hbd : ∃ wm, Below w0.heap.size w0 wm ∧ Below wm.heap.size wm wS := (by first
        | exact ⟨_, below_next HBF.out (below_next_drew HBT.out (Below.refl w0.heap.size w0) (Nat.le_refl _)) (Nat.le_refl _), HBS.out⟩
        | exact ⟨_, below_next HBT.out (below_next_drew HBF.out (Below.refl w0.heap.size w0) (Nat.le_refl _)) (Nat.le_refl _), HBS.out⟩)
      obtain ⟨wm, h1, h2⟩ := hbd
      exact ⟨AS, nS, cS, rfl, rfl, HOS.out.weaken (by first | exact Nat.le_trans HBT.out.size HBF.out.size | exact Nat.le_trans HBF.out.size HBT.out.size), below_next h2 h1 (Nat.le_refl _)⟩
  case rest =>
    obtain ⟨As, ns, cs, rfl, rfl, hs1, hB1⟩ := hcut
    obtain ⟨w1, hw1⟩ : ∃ x, wc = x := ⟨_, rfl⟩
    subst hw1
    clear hx0 hx1 hx2 hx3
    have hls : ns ≤ 1099511627776 := by rw [← hs1.len]; exact hRl0
    have rs := Lib.hid (own_row hs1)
    have hxB := hbx.next hB1
    go_wp2_with fail
    refine (toInt64S_any A0 n0 c0 zs0 _ (h0.up hB1) hn0).mono ?_
    rintro e w2 ⟨Ax, cx, rfl, hx, hb2⟩
    have hB2 := below_next hb2 hB1 (Nat.le_refl _)
    have hs1 := hs1.below hb2
    have rx := Lib.hid (own_row hx)
    have hq := hbx.next hB2
    have q0 := hq.c0
    have q1 := hq.c1
    have q2 := hq.c2
    have q3 := hq.c3
    go_wp2_with fail
    refine (toFault_any k p l v _).mono ?_
    rintro e w3 ⟨rfl, hb3⟩
    have hB3 := below_next hb3 hB2 (Nat.le_refl _)
    have hs1 := hs1.below hb3
    have hx := hx.below hb3
    clear q0 q1 q2 q3
    go_wp2_with fail
    refine (impl_any Ax n0 cx zs0 k p l v _ hx.reads hn0 (own_none hx)).mono ?_
    rw [HR.out, HC.out]
    rintro e w4 ⟨Ag, ng, cg, rfl, hg, hb4⟩
    have hB4 := below_next hb4 hB3 (Nat.le_refl _)
    have hs1 := hs1.below hb4
    have hx := hx.below hb4
    have rg := Lib.hid (own_row hg)
    have hlg : ng ≤ 1099511627776 := by rw [← hg.len]; exact hRl0
    go_wp2_with fail
    refine (eqInt64S_any _ _ _ _ _ _ R R _ hg.reads hs1.reads hlg hls).mono ?_
    rw [eqI_self]
    rintro e w5 ⟨rfl, hb5⟩
    have hB5 := below_next hb5 hB4 (Nat.le_refl _)
    have hs1 := hs1.below hb5
    have hx := hx.below hb5
    have hg := hg.below hb5
    go_wp2_with fail
    refine (toInt64S_any A0 n0 c0 zs0 _ (h0.up hB5) hn0).mono ?_
    rintro e w6 ⟨Ay, cy, rfl, hy, hb6⟩
    have hB6 := below_next hb6 hB5 (Nat.le_refl _)
    have hs1 := hs1.below hb6
    have hx := hx.below hb6
    have hg := hg.below hb6
    go_wp2_with fail
    refine (eqInt64S_any _ _ _ _ _ _ zs0 zs0 _ hx.reads hy.reads hn0 hn0).mono ?_
    rw [eqI_self]
    rintro e w7 ⟨rfl, hb7⟩
    have hB7 := below_next hb7 hB6 (Nat.le_refl _)
    have hs1 := hs1.below hb7
    have hx := hx.below hb7
    have hg := hg.below hb7
    clear hy
    have hsz1 : wc.heap.size ≤ wc.heap.size := Nat.le_refl _
    have hsz3 : w2.heap.size ≤ w3.heap.size := hb3.size
    go_wp2_with fail
    refine (markInt64S_any _ _ _ _ zs0 1 _ hx hn0 (by omega) (by omega)).mono ?_
    rintro e w8 ⟨rfl, hmx, hg8⟩
    have hs1 := hs1.kept hg8 (apartI_lo rs.out rx.out (Nat.le_refl _))
    have hg := hg.kept hg8 (apartI_hi rg.out rx.out hsz3)
    have hB8 := hB7.grown hg8 hB7.size (fun g e => Nat.le_trans hB1.size (rx.out g e).1)
    clear hx hmx
    go_wp2_with fail
    refine (eqInt64S_any _ _ _ _ _ _ R R _ hg.reads hs1.reads hlg hls).mono ?_
    rw [eqI_self]
    rintro e w9 ⟨rfl, hb9⟩
    have hB9 := below_next hb9 hB8 (Nat.le_refl _)
    have hs1 := hs1.below hb9
    have hg := hg.below hb9
    go_wp2_with fail
    refine (markInt64S_any _ _ _ _ R 1 _ hg hlg (by omega) (by omega)).mono ?_
    rintro e w10 ⟨rfl, hmg, hg10⟩
    have hs1 := hs1.kept hg10 (apartI_lo rs.out rg.out (Nat.le_trans hb2.size hb3.size))
    have hB10 := hB9.grown hg10 hB9.size (fun g e => Nat.le_trans hB3.size (rg.out g e).1)
    have hg := hmg
    clear hmg
    go_wp2_with fail
    refine (heldInt64S_any _ _ _ 1 _ hg.reads hlg (by omega) (by omega)).mono ?_
    rintro e w' ⟨rfl, rfl⟩
    have hz := hbx.next hB10
    have z0 := hz.c0
    have z1 := hz.c1
    have z2 := hz.c2
    have z3 := hz.c3
    have hri := h0.up hB10
    clear hxB hq hB1 hB2 hB3 hB4 hB5 hB6 hB7 hB8 hB9 hb2 hb3 hb4 hb5 hb6 hb7 hb9 hsz1 hsz3 hg8 hg10 rx
    go_upto_region 22 with fail
    go_cut [13, 14] (fun va vb wc => ∃ As ns cs, va = .slice As ns cs ∧ vb = .int .i64 C ∧ OwnI 2 wc w10.heap.size As ns cs R ∧ Below w10.heap.size w10 wc)
    case first =>
      go_region_law (first
        | ((refine step_call 62 Try.func62 conv_fn.1 conv_fn.2 rfl rfl #[.slice A0 n0 c0] ?_ ?_); (simp [Act.eval, Act.put]); (refine (toInt64S_any A0 n0 c0 zs0 _ (by first | exact hri | exact (hri).up HBF.out) hn0).mono ?_); rintro e wT ⟨AT, cT, rfl, hownT, hbT⟩; (refine ⟨_, rfl, ?_⟩); (have hbxT : Blk4 wT w.heap.size 73 (.int .i64 k) (.int .i64 p) (.int .i64 l) (.int .i64 v) := (by first | exact Blk4.next (w := w10.drew) hbT hz | exact Blk4.next hbT hbxF)); have hT0 := hbxT.c0; have hT1 := hbxT.c1; have hT2 := hbxT.c2; have hT3 := hbxT.c3; have HOT := Lib.hid hownT; have HBT := Lib.hid (show Below _ _ _ from hbT); clear hownT hbT)
        | ((refine step_call 63 Try.func63 flt_fn.1 flt_fn.2 rfl rfl #[.agg #[.int .i64 k, .int .i64 p, .int .i64 l, .int .i64 v]] ?_ ?_); (simp [Act.eval]); (refine (toFault_any k p l v _).mono ?_); rintro e wF ⟨rfl, hbF⟩; (refine ⟨_, rfl, ?_⟩); (have hbxF : Blk4 wF w.heap.size 73 (.int .i64 k) (.int .i64 p) (.int .i64 l) (.int .i64 v) := (by first | exact Blk4.next (w := w10.drew) hbF hz | exact Blk4.next hbF hbxT)); have hF0 := hbxF.c0; have hF1 := hbxF.c1; have hF2 := hbxF.c2; have hF3 := hbxF.c3; have HBF := Lib.hid (show Below _ _ _ from hbF); clear hbF)
        | ((refine step_call 64 Try.func64 i_fn.1 i_fn.2 rfl rfl #[.slice AT n0 cT, .agg #[.int .i64 k, .int .i64 p, .int .i64 l, .int .i64 v]] ?_ ?_); (simp [Act.eval]); (refine (impl_any AT n0 cT zs0 k p l v _ (by first | exact HOT.out.reads | exact HOT.out.reads.up HBF.out) hn0 (own_none HOT.out)).mono ?_); rintro e wS ⟨AS, nS, cS, rfl, hownS, hbS⟩; (refine ⟨_, rfl, ?_⟩); (rw [HR.out] at hownS); (rw [HC.out]); have HOS := Lib.hid hownS; have HBS := Lib.hid hbS; clear hownS hbS))
      all_goals
        go_wp2_with fail
        go_meet
        have hbd : ∃ wm, Below w10.heap.size w10 wm ∧ Below wm.heap.size wm wS := (by first
          | exact ⟨_, below_next HBF.out (below_next_drew HBT.out (Below.refl w10.heap.size w10) (Nat.le_refl _)) (Nat.le_refl _), HBS.out⟩
          | exact ⟨_, below_next HBT.out (below_next_drew HBF.out (Below.refl w10.heap.size w10) (Nat.le_refl _)) (Nat.le_refl _), HBS.out⟩)
        obtain ⟨wm, h1, h2⟩ := hbd
        exact ⟨AS, nS, cS, rfl, rfl, HOS.out.weaken (by first | exact Nat.le_trans HBT.out.size HBF.out.size | exact Nat.le_trans HBF.out.size HBT.out.size), below_next h2 h1 (Nat.le_refl _)⟩
    case rest =>
      obtain ⟨Az, nz, cz, rfl, rfl, hz1, hb11⟩ := hcut
      clear z0 z1 z2 z3
      have hlz : nz ≤ 1099511627776 := by rw [← hz1.len]; exact hRl0
      have hB11 := below_next hb11 hB10 (Nat.le_refl _)
      have hs1 := hs1.below hb11
      have hg := hg.below hb11
      go_wp2_with fail
      refine (eqInt64S_any _ _ _ _ _ _ R R _ hz1.reads hs1.reads hlz hls).mono ?_
      rw [eqI_self]
      rintro e w12 ⟨rfl, hb12⟩
      have hB12 := below_next hb12 hB11 (Nat.le_refl _)
      have hg := hg.below hb12
      go_wp2_with fail
      refine (heldInt64S_any _ _ _ 1 _ hg.reads hlg (by omega) (by omega)).mono ?_
      rintro e w' ⟨rfl, rfl⟩
      go_wp2
      go_ret
      exact ⟨rfl, HB.out.trans (hB12.mono HB.out.size)⟩

set_option maxRecDepth 100000 in
theorem lifted (os : Os) (started : os.Started) (H : Type) (enc : TypeId × Value → H) :
    ReturnsInHanded {} Try.checked os 9 .any (Rows.fnExactApplyFaultSpec.pre6 enc Try.prog Try.f9 Rows.fnExactApplyFaultRow.domain false) (Rows.fnExactApplyFaultSpec.post enc Try.prog Try.f9 false true false false) := by
  refine returnsInHanded_of_change (C := Try.checked) own started (by kernel_rfl) Try.func9
    (ChangeSpec.witness6 (enc := enc) (C := Try.checked) false ⟨#[], #[.slice none 0 0, .agg #[.int .i64 0, .int .i64 0, .int .i64 0, .int .i64 0]], []⟩ 8 (by kernel_rfl) (by kernel_rfl) (by kernel_rfl) (by kernel_rfl)) ?_
  intro W base args ds gs before hval0 hW _ _
  have hval : ∀ (j : Nat) t v, Try.f9.params[j]? = some t → args[j]? = some v → Value.okWide Try.prog W .any base t v := hval0
  have hW' := hW
  obtain ⟨p, q, hA0, hV, rfl, hfz, hnd⟩ := hW
  have hA : DataW.TrodAll enc Try.prog W 0 (fun _ => true) true Try.f9.params.toList args.toList ds p := hA0
  rw [Try.params9] at hA hval
  obtain ⟨v0, vs0, d0, ds0, p0, q0, hargs, rfl, rfl, h0, r0⟩ := trodAll_cons hA
  obtain ⟨v1, vs1, d1, ds1, p1, q1, rfl, rfl, rfl, h1, r1⟩ := trodAll_cons r0
  obtain ⟨rfl, rfl, rfl⟩ := trodAll_nil r1
  obtain rfl : args = #[v0, v1] := by cases args; simp_all
  obtain ⟨A0, n0, c0, zs0, rfl, hr0, hi0, hn0⟩ := arg_ints Try.underlying24 Try.underlying2 (by kernel_rfl) (hval 0 24 v0 rfl rfl) h0
  obtain ⟨f1, rfl, wk1, wp1, wl1, wv1⟩ := arg_fault Try.underlying73 (by kernel_rfl) (by kernel_rfl) rfl rfl rfl rfl Try.underlying2 (hval 1 73 v1 rfl rfl) h1
  refine (walk W A0 n0 c0 zs0 hr0 hi0 hn0 f1 wk1 wp1 wl1 wv1).mono fun e W' ⟨he, hb⟩ => ?_
  subst he
  exact ⟨_, rfl, law_post laidOut (by
    rw [show Try.f9.params.toList = [24, 73] from rfl]
    intro t ht
    simp only [List.mem_cons, List.not_mem_nil, or_false] at ht
    rcases ht with rfl | rfl <;> exact ⟨by kernel_rfl, of_decide_eq_true (by kernel_rfl)⟩) rfl Try.underlying4 rfl rfl hW' hb⟩

set_option maxRecDepth 100000 in
theorem closed : joinedFacts Try.prog 9 Try.f9 Rows.fnExactApplyFaultSpec Rows.fnExactApplyFaultRow = true := by
  unfold joinedFacts
  rw [mayEnter_ok, liftsFinal_ok, make_ok]
  change _ = true
  kernel_rfl

theorem holds : Rows.FnExactApplyFaultSaid :=
  OpenClaim.holds_of_wide 9 Try.f9 rfl rfl rfl rfl rfl rfl rfl ⟨rfl, rfl, rfl, rfl, rfl⟩ rfl rfl rfl rfl rfl (by kernel_rfl) Try.func9 closed
    (of_decide_eq_true (by kernel_rfl)) (by unfold Func.isWrapper; first | (rw [if_pos (by decide +kernel)]; kernel_rfl) | (rw [if_neg (by decide +kernel)]; exact ⟨rfl, rfl⟩))
    (fun os started H enc _ => lifted os started H enc)
end ApplyFault
end Go.Proofs.Ytlfbmedgkkfalaa
