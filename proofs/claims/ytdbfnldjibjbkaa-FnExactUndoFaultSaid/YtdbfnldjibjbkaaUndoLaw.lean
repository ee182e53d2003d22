/- FnExactUndoFault: the program's UndoFault returns what the reference's returns, for all arguments. Conditions: none. -/
import Derived.Test.YtdbfnldjibjbkaaRow
import Derived.Test.YtdbfnldjibjbkaaHold
import Derived.Test.YtdbfnldjibjbkaaUndo
import Derived.Test.YtdbfnldjibjbkaaKit8
namespace Go.Proofs.Ytdbfnldjibjbkaa
open Go.ChangeShapes Go.WideShapes Go.ChangeAt Go.RowKit
namespace UndoFault
theorem bx4_of {w : World} {B g : Nat} {t : TypeId} {k p l v : Int} (h : Blk4 w g t (.int .i64 k) (.int .i64 p) (.int .i64 l) (.int .i64 v)) (hB : B ≤ g) : Bx4 w B (.pointer (some ⟨g, 0, none⟩)) g ⟨k, p, l, v⟩ :=
  ⟨rfl, hB, h.lt, h.c0, h.c1, h.c2, h.c3⟩

set_option maxHeartbeats 40000000 in
theorem walk (w : World) (A : Option Addr) (n c : Nat) (zs : List Int) (h : RI w w.heap.size A n zs) (_ : ∀ i, i < n → I64 (gi zs i)) (hn : n ≤ maxLen) (f : Flt) (_ : I64 f.kd) (_ : I64 f.pos) (_ : I64 f.len) (_ : I64 f.val) :
    Calls Try.prog 6 #[.slice A n c, .agg #[.int .i64 f.kd, .int .i64 f.pos, .int .i64 f.len, .int .i64 f.val]] w fun e w' => e = .returned (.bool true) ∧ Below w.heap.size w w' := by
  unfold maxLen at hn
  by_cases hs : n ≤ 1048576
  case neg =>
    go_enter Try.func6, Try.ntmps6
    go_wp2
    go_ret
    exact ⟨rfl, (Below.refl _ _).alloc (Nat.le_refl _) _⟩
  clear hn
  have hn : n ≤ 1099511627776 := by omega
  have hB0 : Below w.heap.size w (w.alloc (.cells #[.int .i64 f.kd, .int .i64 f.pos, .int .i64 f.len, .int .i64 f.val] 40)) := (Below.refl _ _).alloc (Nat.le_refl _) _
  have h0 := h.up hB0
  obtain ⟨u, hu⟩ : ∃ u, undo n (isBits zs) ⟨f.kd, f.pos, f.len, f.val⟩ = u := ⟨_, rfl⟩
  obtain ⟨⟨uk, up, ul, uv⟩, ok⟩ := u
  have HU := Lib.hid hu
  clear hu
  go_enter Try.func6, Try.ntmps6
  go_upto_region 3 with fail
  go_cut [5, 6] (fun v5 v6 wr => (∃ g, Bx4 wr (w.heap.size + 1) v5 g ⟨uk, up, ul, uv⟩) ∧ v6 = .bool ok ∧ Below (w.alloc (.cells #[.int .i64 f.kd, .int .i64 f.pos, .int .i64 f.len, .int .i64 f.val] 40)).heap.size (w.alloc (.cells #[.int .i64 f.kd, .int .i64 f.pos, .int .i64 f.len, .int .i64 f.val] 40)) wr)
  case first =>
    go_region_with (first
        | (go_at_call 41; refine (toFault_any _ _ _ _ _).mono ?_; rintro e w1 ⟨rfl, hb1⟩; have hs1 := hb1.size; (try simp at hs1); (try (have hz1_1 : w.heap.size < w1.heap.size := by omega)); (try (have hz1_2 : w.heap.size + 1 < w1.heap.size := by omega)); (try (have hz1_3 : w2.heap.size < w1.heap.size := by omega)); have HS1 := Lib.hid hs1; clear hs1; obtain ⟨hc1, hf1⟩ := bcell hb1)
        | (go_at_call 30; refine (toInt64S_any _ _ _ zs _ ?_ hn).mono ?_; (repeat (first | exact h0 | refine RI.next (by assumption) ?_ | refine RI.alloc' ?_ _)); rintro e w2 ⟨A2, c2, rfl, hown2, hb2⟩; have hs2 := hb2.size; (try simp at hs2); (try (have hz2_1 : w.heap.size < w2.heap.size := by omega)); (try (have hz2_2 : w.heap.size + 1 < w2.heap.size := by omega)); (try (have hz2_3 : w1.heap.size < w2.heap.size := by omega)); have HS2 := Lib.hid hs2; clear hs2; obtain ⟨hc2, hf2⟩ := bcell hb2)
        | (go_at_call 40; refine (spec_any _ _ _ zs _ _ _ _ _ ?_ hn).mono ?_; (repeat (first | exact hown2.reads | refine RI.next (by assumption) ?_ | refine RI.alloc' ?_ _)); rw [HU.out]; dsimp only [aggU]; rintro e w3 ⟨rfl, hb3⟩; have hs3 := hb3.size; (try simp at hs3); (try (have hz3_1 : w.heap.size < w3.heap.size := by omega)); (try (have hz3_2 : w.heap.size + 1 < w3.heap.size := by omega)); (try (have hz3_3 : w1.heap.size < w3.heap.size := by omega)); (try (have hz3_4 : w2.heap.size < w3.heap.size := by omega)); have HS3 := Lib.hid hs3; clear hs3; obtain ⟨hc3, hf3⟩ := bcell hb3))
    all_goals
      go_wp2_with fail
      go_meet
      refine ⟨⟨_, bx4_of (t := 41) ?_ ?_⟩, rfl, ?_⟩
      · (repeat with_reducible (first | exact Blk4.new_at (by simp) | refine Blk4.all (u0 := .int .i64 0) (u1 := .int .i64 0) (u2 := .int .i64 0) (u3 := .int .i64 0) ?_ | refine Blk4.next (by assumption) ?_ | refine Blk4.next_drew (by assumption) ?_ | refine Blk4.alloc ?_ _ | refine Blk4.drew ?_))
      · omega
      · exact (by repeat with_reducible (first | exact Below.refl _ _ | exact (Below.refl _ _).drew | refine below_next (by assumption) ?_ (by simp) | refine below_next_drew (by assumption) ?_ (by simp) | refine Below.drew ?_ | refine below_alloc ?_ (by simp) _ | refine Below.setCell ?_ (by first | (simp; done) | (simp; omega)) _))
  case rest =>
    obtain ⟨⟨g, rfl, hg1, hg2, e0, e1, e2, e3⟩, rfl, hB1⟩ := hcut
    simp only at e0 e1 e2 e3
    have hr1 : RI wc wc.heap.size A n zs := h0.up hB1
    obtain ⟨hc1, hf1⟩ := bcell hB1
    go_wp2_with fail
    refine (toInt64S_any _ _ _ zs _ hr1 hn).mono ?_
    rintro e w2 ⟨A2, c2, rfl, hown2, hb2⟩
    obtain ⟨hc2, hf2⟩ := bcell hb2
    have hz2 : w.heap.size < wc.heap.size := by have := hB1.size; simp only [isz_alloc] at this; omega
    go_wp2_with fail
    refine (toFault_any _ _ _ _ _).mono ?_
    rintro e w3 ⟨rfl, hb3⟩
    obtain ⟨hc3, hf3⟩ := bcell hb3
    have hg3 : g < w2.heap.size := Nat.lt_of_lt_of_le hg2 hb2.size
    have hown3 := hown2.below hb3
    go_wp2_with fail
    refine (impl_any _ _ _ zs _ _ _ _ _ hown3.reads hn).mono ?_
    rw [HU.out]
    dsimp only [aggU]
    rintro e w4 ⟨rfl, hb4⟩
    obtain ⟨hc4, hf4⟩ := bcell hb4
    have hg4 : g < w3.heap.size := Nat.lt_of_lt_of_le hg3 hb3.size
    have hg5 : g < w4.heap.size := Nat.lt_of_lt_of_le hg4 hb4.size
    have hown4 := hown3.below hb4
    have hB4 : Below (w.alloc (.cells #[.int .i64 f.kd, .int .i64 f.pos, .int .i64 f.len, .int .i64 f.val] 40)).heap.size (w.alloc (.cells #[.int .i64 f.kd, .int .i64 f.pos, .int .i64 f.len, .int .i64 f.val] 40)) w4 := below_next hb4 (below_next hb3 (below_next hb2 hB1 (Nat.le_refl _)) (Nat.le_refl _)) (Nat.le_refl _)
    go_wp2_with fail
    refine (eqFault_self _ _ _ _ _).mono ?_
    rintro e w5 ⟨rfl, hb5⟩
    have hown5 := (hown4.alloc (.cells #[.int .i64 uk, .int .i64 up, .int .i64 ul, .int .i64 uv] 41)).below hb5
    have hB5 := below_next hb5 (below_alloc hB4 (Nat.le_refl _) (.cells #[.int .i64 uk, .int .i64 up, .int .i64 ul, .int .i64 uv] 41)) (Nat.le_refl _)
    go_wp2_with fail
    refine (toInt64S_any _ _ _ zs _ (h0.up hB5) hn).mono ?_
    rintro e w6 ⟨A6, c6, rfl, hown6, hb6⟩
    have hown6' := hown5.below hb6
    go_wp2_with fail
    refine (eqInt64S_any _ _ _ _ _ _ zs zs _ hown6'.reads hown6.reads hn hn).mono ?_
    rw [eqI_self]
    rintro e w7 ⟨rfl, hb7⟩
    go_wp2
    go_ret
    exact ⟨rfl, hB0.trans ((below_next hb7 (below_next hb6 hB5 (Nat.le_refl _)) (Nat.le_refl _)).mono (by simp))⟩

set_option maxRecDepth 100000 in
theorem lifted (os : Os) (started : os.Started) (H : Type) (enc : TypeId × Value → H) :
    ReturnsInHanded {} Try.checked os 6 .any (Rows.fnExactUndoFaultSpec.pre6 enc Try.prog Try.f6 Rows.fnExactUndoFaultRow.domain false) (Rows.fnExactUndoFaultSpec.post enc Try.prog Try.f6 false true false false) := by
  refine returnsInHanded_of_change (C := Try.checked) own started (by kernel_rfl) Try.func6
    (ChangeSpec.witness6 (enc := enc) (C := Try.checked) false ⟨#[], #[.slice none 0 0, .agg #[.int .i64 0, .int .i64 0, .int .i64 0, .int .i64 0]], []⟩ 8 (by kernel_rfl) (by kernel_rfl) (by kernel_rfl) (by kernel_rfl)) ?_
  intro W base args ds gs before hval0 hW _ _
  have hval : ∀ (j : Nat) t v, Try.f6.params[j]? = some t → args[j]? = some v → Value.okWide Try.prog W .any base t v := hval0
  have hW' := hW
  obtain ⟨p, q, hA0, hV, rfl, hfz, hnd⟩ := hW
  have hA : DataW.TrodAll enc Try.prog W 0 (fun _ => true) true Try.f6.params.toList args.toList ds p := hA0
  rw [Try.params6] at hA hval
  obtain ⟨v0, vs0, d0, ds0, p0, q0, hargs, rfl, rfl, h0, r0⟩ := trodAll_cons hA
  obtain ⟨v1, vs1, d1, ds1, p1, q1, rfl, rfl, rfl, h1, r1⟩ := trodAll_cons r0
  obtain ⟨rfl, rfl, rfl⟩ := trodAll_nil r1
  obtain rfl : args = #[v0, v1] := by cases args; simp_all
  obtain ⟨A0, n0, c0, zs0, rfl, hr0, hi0, hn0⟩ := arg_ints Try.underlying25 Try.underlying2 (by kernel_rfl) (hval 0 25 v0 rfl rfl) h0
  obtain ⟨f1, rfl, wk1, wp1, wl1, wv1⟩ := arg_fault Try.underlying40 (by kernel_rfl) (by kernel_rfl) rfl rfl rfl rfl Try.underlying2 (hval 1 40 v1 rfl rfl) h1
  refine (walk W A0 n0 c0 zs0 hr0 hi0 hn0 f1 wk1 wp1 wl1 wv1).mono fun e W' ⟨he, hb⟩ => ?_
  subst he
  exact ⟨_, rfl, law_post laidOut (by
    rw [show Try.f6.params.toList = [25, 40] from rfl]
    intro t ht
    simp only [List.mem_cons, List.not_mem_nil, or_false] at ht
    rcases ht with rfl | rfl <;> exact ⟨by kernel_rfl, of_decide_eq_true (by kernel_rfl)⟩) rfl Try.underlying4 rfl rfl hW' hb⟩

set_option maxRecDepth 100000 in
theorem closed : joinedFacts Try.prog 6 Try.f6 Rows.fnExactUndoFaultSpec Rows.fnExactUndoFaultRow = true := by
  unfold joinedFacts
  rw [mayEnter_ok, liftsFinal_ok, make_ok]
  change _ = true
  kernel_rfl

theorem holds : Rows.FnExactUndoFaultSaid :=
  OpenClaim.holds_of_wide 6 Try.f6 rfl rfl rfl rfl rfl rfl rfl ⟨rfl, rfl, rfl, rfl, rfl⟩ rfl rfl rfl rfl rfl (by kernel_rfl) Try.func6 closed
    (of_decide_eq_true (by kernel_rfl)) (by unfold Func.isWrapper; first | (rw [if_pos (by decide +kernel)]; kernel_rfl) | (rw [if_neg (by decide +kernel)]; exact ⟨rfl, rfl⟩))
    (fun os started H enc _ => lifted os started H enc)
end UndoFault
end Go.Proofs.Ytdbfnldjibjbkaa
