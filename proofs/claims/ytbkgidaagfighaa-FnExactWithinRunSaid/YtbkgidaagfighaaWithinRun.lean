/- FnExactWithinRun: the program's WithinRun returns what the reference's returns, for all arguments. Conditions: none. -/
import Derived.Test.YtbkgidaagfighaaRow
import Derived.Test.YtbkgidaagfighaaKit2
import Derived.Test.YtbkgidaagfighaaWithin
import Derived.Deep.RegionHeld3
import Derived.Deep.DeepCutAuto
namespace Go.Proofs.Ytbkgidaagfighaa
open Go.ChangeShapes Go.WideShapes Go.ChangeAt Go.RowKit

namespace WithinRun
/-- the code of bits and a fault -/
def cod (a b : Bool) : Int := if a then (if b then 0 else 2) else 1
def wrB (zs : List Int) (f : Flt) : Bool := isBits zs && (isFault f && within5 zs f)

set_option maxHeartbeats 1000000 in
theorem spec_any (A : Option Addr) (n c : Nat) (zs : List Int) (k p l v : Int) (w : World) (h : RI w w.heap.size A n zs) (hn : n ≤ 1099511627776) :
    Calls Try.prog 33 #[.slice A n c, .agg #[.int .i64 k, .int .i64 p, .int .i64 l, .int .i64 v]] w (RetV w (.tuple #[.bool (wrB zs ⟨k, p, l, v⟩), .int .i64 (cod (isBits zs) (isFault ⟨k, p, l, v⟩))])) := by
  have h0 : RI (w.alloc (.cells #[.int .i64 k, .int .i64 p, .int .i64 l, .int .i64 v] 30)) (w.alloc (.cells #[.int .i64 k, .int .i64 p, .int .i64 l, .int .i64 v] 30)).heap.size A n zs :=
    h.up ((Below.refl _ _).alloc (Nat.le_refl _) _)
  rcases bool_cases (isBits zs) with hz | hz
  · rcases bool_cases (isFault ⟨k, p, l, v⟩) with hf | hf
    case inl =>
      go_enter Try.func33, Try.ntmps33
      go_wp2_with (go_at_call 59; refine (sIsBits_any _ _ _ _ _ h0 hn).mono ?_; rintro e w' ⟨rfl, rfl⟩)
      refine (sIsFault_any _ _ _ _ _).mono ?_
      rintro e w1 ⟨rfl, hb1⟩
      obtain ⟨hc1, hf1⟩ := bcell hb1
      go_wp2_with fail
      refine (l26Within_any _ _ _ _ _ _ _ _ _ (h0.up hb1) hn).mono ?_
      rintro e w2 ⟨rfl, hb2⟩
      go_wp2
      go_ret2
      exact ⟨by simp [wrB, cod, hz, hf], ((((Below.refl _ _).alloc (Nat.le_refl _) _).trans (hb1.mono (by simp))).trans (hb2.mono (by have := hb1.size; simp at this; omega)))⟩
    case inr =>
      go_enter Try.func33, Try.ntmps33
      go_wp2_with (go_at_call 59; refine (sIsBits_any _ _ _ _ _ h0 hn).mono ?_; rintro e w' ⟨rfl, rfl⟩)
      refine (sIsFault_any _ _ _ _ _).mono ?_
      rintro e w1 ⟨rfl, hb1⟩
      obtain ⟨hc1, hf1⟩ := bcell hb1
      go_wp2
      go_ret2
      exact ⟨by simp [wrB, cod, hz, hf], ((Below.refl _ _).alloc (Nat.le_refl _) _).trans (hb1.mono (by simp))⟩
  · go_enter Try.func33, Try.ntmps33
    go_wp2_with (go_at_call 59; refine (sIsBits_any _ _ _ _ _ h0 hn).mono ?_; rintro e w' ⟨rfl, rfl⟩)
    go_ret2
    exact ⟨by simp [wrB, cod, hz], (Below.refl _ _).alloc (Nat.le_refl _) _⟩

set_option maxHeartbeats 1000000 in
theorem impl_any (A : Option Addr) (n c : Nat) (zs : List Int) (k p l v : Int) (w : World) (h : RI w w.heap.size A n zs) (hn : n ≤ 1099511627776) (hcap : n ≤ c) (hcm : c ≤ maxLen) :
    Calls Try.prog 34 #[.slice A n c, .agg #[.int .i64 k, .int .i64 p, .int .i64 l, .int .i64 v]] w (RetV w (.tuple #[.bool (wrB zs ⟨k, p, l, v⟩), .int .i64 (cod (isBits zs) (isFault ⟨k, p, l, v⟩))])) := by
  have h0 : RI (w.alloc (.cells #[.int .i64 k, .int .i64 p, .int .i64 l, .int .i64 v] 30)) (w.alloc (.cells #[.int .i64 k, .int .i64 p, .int .i64 l, .int .i64 v] 30)).heap.size A n zs :=
    h.up ((Below.refl _ _).alloc (Nat.le_refl _) _)
  rcases bool_cases (isBits zs) with hz | hz
  · rcases bool_cases (isFault ⟨k, p, l, v⟩) with hf | hf
    case inl =>
      go_enter Try.func34, Try.ntmps34
      go_wp2_with (go_at_call 61; refine (iIsBits_any _ _ _ _ _ h0 hn).mono ?_; rintro e w' ⟨rfl, rfl⟩)
      refine (iIsFault_any _ _ _ _ _).mono ?_
      rintro e w1 ⟨rfl, hb1⟩
      obtain ⟨hc1, hf1⟩ := bcell hb1
      go_wp2_with fail
      refine (withinRun_any _ _ _ _ _ _ _ _ _ (h0.up hb1) hn hcap hcm).mono ?_
      rintro e w2 ⟨rfl, hb2⟩
      go_wp2
      go_ret2
      exact ⟨by simp [wrB, cod, hz, hf], ((((Below.refl _ _).alloc (Nat.le_refl _) _).trans (hb1.mono (by simp))).trans (hb2.mono (by have := hb1.size; simp at this; omega)))⟩
    case inr =>
      go_enter Try.func34, Try.ntmps34
      go_wp2_with (go_at_call 61; refine (iIsBits_any _ _ _ _ _ h0 hn).mono ?_; rintro e w' ⟨rfl, rfl⟩)
      refine (iIsFault_any _ _ _ _ _).mono ?_
      rintro e w1 ⟨rfl, hb1⟩
      obtain ⟨hc1, hf1⟩ := bcell hb1
      go_wp2
      go_ret2
      exact ⟨by simp [wrB, cod, hz, hf], ((Below.refl _ _).alloc (Nat.le_refl _) _).trans (hb1.mono (by simp))⟩
  · go_enter Try.func34, Try.ntmps34
    go_wp2_with (go_at_call 61; refine (iIsBits_any _ _ _ _ _ h0 hn).mono ?_; rintro e w' ⟨rfl, rfl⟩)
    go_ret2
    exact ⟨by simp [wrB, cod, hz], (Below.refl _ _).alloc (Nat.le_refl _) _⟩

set_option maxHeartbeats 2000000 in
theorem walk (w : World) (A : Option Addr) (n c : Nat) (zs : List Int) (h : RI w w.heap.size A n zs) (_ : ∀ i, i < n → I64 (gi zs i)) (hn : n ≤ maxLen) (f : Flt) (_ : I64 f.kd) (_ : I64 f.pos) (_ : I64 f.len) (_ : I64 f.val) :
    Calls Try.prog 8 #[.slice A n c, .agg #[.int .i64 f.kd, .int .i64 f.pos, .int .i64 f.len, .int .i64 f.val]] w fun e w' => e = .returned (.bool true) ∧ Below w.heap.size w w' := by
  unfold maxLen at hn
  by_cases hs : n ≤ 1048576
  case neg =>
    go_enter Try.func8, Try.ntmps8
    go_wp2
    go_ret
    exact ⟨rfl, (Below.refl _ _).alloc (Nat.le_refl _) _⟩
  clear hn
  have hn : n ≤ 1099511627776 := by omega
  have hB0 : Below w.heap.size w (w.alloc (.cells #[.int .i64 f.kd, .int .i64 f.pos, .int .i64 f.len, .int .i64 f.val] 28)) := (Below.refl _ _).alloc (Nat.le_refl _) _
  have h0 := h.up hB0
  go_enter Try.func8, Try.ntmps8
  go_upto_region 3 with fail
  go_cut [5, 6] (fun v5 v6 wr => v5 = .bool (wrB zs ⟨f.kd, f.pos, f.len, f.val⟩) ∧ v6 = .int .i64 (cod (isBits zs) (isFault ⟨f.kd, f.pos, f.len, f.val⟩)) ∧ Below (w.alloc (.cells #[.int .i64 f.kd, .int .i64 f.pos, .int .i64 f.len, .int .i64 f.val] 28)).heap.size (w.alloc (.cells #[.int .i64 f.kd, .int .i64 f.pos, .int .i64 f.len, .int .i64 f.val] 28)) wr)
  case first =>
    go_region_with (first
        | (go_at_call 20; refine (toFault_any _ _ _ _ _).mono ?_; rintro e w1 ⟨rfl, hb1⟩; obtain ⟨hc1, hf1⟩ := bcell hb1)
        | (go_at_call 23; refine (toInt64S_any _ _ _ zs _ ?_ hn).mono ?_; (first | exact h0 | exact h0.up hb1); rintro e w2 ⟨A2, c2, rfl, hown2, hb2⟩; obtain ⟨hc2, hf2⟩ := bcell hb2)
        | (go_at_call 33; refine (spec_any _ _ _ zs _ _ _ _ _ ?_ hn).mono ?_; (first | exact hown2.reads | exact hown2.reads.up hb1); rintro e w3 ⟨rfl, hb3⟩))
    all_goals
      go_wp2_with fail
      go_meet
      exact ⟨rfl, rfl, (by repeat (first | exact Below.refl _ _ | exact (Below.refl _ _).drew | refine below_next (by assumption) ?_ (Nat.le_refl _)))⟩
  case rest =>
    obtain ⟨rfl, rfl, hB1⟩ := hcut
    have hr1 : RI wc wc.heap.size A n zs := h0.up hB1
    obtain ⟨hc1, hf1⟩ := bcell hB1
    go_wp2_with fail
    refine (toInt64S_any _ _ _ zs _ hr1 hn).mono ?_
    rintro e w2 ⟨A2, c2, rfl, hown2, hb2⟩
    obtain ⟨hc2, hf2⟩ := bcell hb2
    have hz2 : w.heap.size < wc.heap.size := by have := hB1.size; simp only [isz_alloc] at this; omega
    go_wp2_with fail
    refine (toFault_any _ _ _ _ _).mono ?_
    rintro e w3 ⟨rfl, hb3⟩
    have hown3 := hown2.below hb3
    go_wp2_with fail
    refine (impl_any _ _ _ zs _ _ _ _ _ hown3.reads hn hown3.cap.1 hown3.cap.2).mono ?_
    rintro e w4 ⟨rfl, hb4⟩
    have hown4 := hown3.below hb4
    have hB4 : Below (w.alloc (.cells #[.int .i64 f.kd, .int .i64 f.pos, .int .i64 f.len, .int .i64 f.val] 28)).heap.size (w.alloc (.cells #[.int .i64 f.kd, .int .i64 f.pos, .int .i64 f.len, .int .i64 f.val] 28)) w4 := below_next hb4 (below_next hb3 (below_next hb2 hB1 (Nat.le_refl _)) (Nat.le_refl _)) (Nat.le_refl _)
    go_wp2_with fail
    refine (toInt64S_any _ _ _ zs _ (h0.up hB4) hn).mono ?_
    rintro e w5 ⟨A5, c5, rfl, hown5, hb5⟩
    have hown5' := hown4.below hb5
    go_wp2_with fail
    refine (eqInt64S_any _ _ _ _ _ _ zs zs _ hown5'.reads hown5.reads hn hn).mono ?_
    rw [eqI_self]
    rintro e w6 ⟨rfl, hb6⟩
    go_wp2
    go_ret
    exact ⟨rfl, hB0.trans ((below_next hb6 (below_next hb5 hB4 (Nat.le_refl _)) (Nat.le_refl _)).mono (by simp))⟩

set_option maxRecDepth 100000 in
theorem lifted (os : Os) (started : os.Started) (H : Type) (enc : TypeId × Value → H) :
    ReturnsInHanded {} Try.checked os 8 .any (Rows.fnExactWithinRunSpec.pre6 enc Try.prog Try.f8 Rows.fnExactWithinRunRow.domain false) (Rows.fnExactWithinRunSpec.post enc Try.prog Try.f8 false true false false) := by
  refine returnsInHanded_of_change (C := Try.checked) own started (by kernel_rfl) Try.func8
    (ChangeSpec.witness6 (enc := enc) (C := Try.checked) false ⟨#[], #[.slice none 0 0, .agg #[.int .i64 0, .int .i64 0, .int .i64 0, .int .i64 0]], []⟩ 8 (by kernel_rfl) (by kernel_rfl) (by kernel_rfl) (by kernel_rfl)) ?_
  intro W base args ds gs before hval0 hW _ _
  have hval : ∀ (j : Nat) t v, Try.f8.params[j]? = some t → args[j]? = some v → Value.okWide Try.prog W .any base t v := hval0
  have hW' := hW
  obtain ⟨p, q, hA0, hV, rfl, hfz, hnd⟩ := hW
  have hA : DataW.TrodAll enc Try.prog W 0 (fun _ => true) true Try.f8.params.toList args.toList ds p := hA0
  rw [Try.params8] at hA hval
  obtain ⟨v0, vs0, d0, ds0, p0, q0, hargs, rfl, rfl, h0, r0⟩ := trodAll_cons hA
  obtain ⟨v1, vs1, d1, ds1, p1, q1, rfl, rfl, rfl, h1, r1⟩ := trodAll_cons r0
  obtain ⟨rfl, rfl, rfl⟩ := trodAll_nil r1
  obtain rfl : args = #[v0, v1] := by cases args; simp_all
  obtain ⟨A0, n0, c0, zs0, rfl, hr0, hi0, hn0⟩ := arg_ints Try.underlying33 Try.underlying2 (by kernel_rfl) (hval 0 33 v0 rfl rfl) h0
  obtain ⟨f1, rfl, wk1, wp1, wl1, wv1⟩ := arg_fault Try.underlying28 (by kernel_rfl) (by kernel_rfl) rfl rfl rfl rfl Try.underlying2 (hval 1 28 v1 rfl rfl) h1
  refine (walk W A0 n0 c0 zs0 hr0 hi0 hn0 f1 wk1 wp1 wl1 wv1).mono fun e W' ⟨he, hb⟩ => ?_
  subst he
  exact ⟨_, rfl, law_post laidOut (by
    rw [show Try.f8.params.toList = [33, 28] from rfl]
    intro t ht
    simp only [List.mem_cons, List.not_mem_nil, or_false] at ht
    rcases ht with rfl | rfl <;> exact ⟨by kernel_rfl, of_decide_eq_true (by kernel_rfl)⟩) rfl Try.underlying4 rfl rfl hW' hb⟩

theorem holds : Rows.FnExactWithinRunSaid :=
  OpenClaim.holds_of_wide 8 Try.f8 rfl rfl rfl rfl rfl rfl rfl ⟨rfl, rfl, rfl, rfl, rfl⟩ rfl rfl rfl rfl rfl (by kernel_rfl) Try.func8 (by kernel_rfl)
    (of_decide_eq_true (by kernel_rfl)) (by unfold Func.isWrapper; first | (rw [if_pos (by decide +kernel)]; kernel_rfl) | (rw [if_neg (by decide +kernel)]; exact ⟨rfl, rfl⟩))
    (fun os started H enc _ => lifted os started H enc)
end WithinRun
end Go.Proofs.Ytbkgidaagfighaa
